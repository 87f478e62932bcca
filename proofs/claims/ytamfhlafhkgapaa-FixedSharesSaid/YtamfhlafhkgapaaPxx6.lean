-- Lean text written by this session's own program (wip/tools/myprint.py) for this claim
import Derived.Test.YtamfhlafhkgapaaPxx0
import Derived.Test.YtamfhlafhkgapaaPxx1
import Derived.Test.YtamfhlafhkgapaaPxx2
import Derived.Test.YtamfhlafhkgapaaPxx4
import Derived.Test.YtamfhlafhkgapaaPxx5
namespace Go.Proofs.Ytamfhlafhkgapaa.Px
open Go.RowKit Go.Proofs.YtamfhlafhkgapaaW.PrintWords Go.Proofs.YtamfhlafhkgapaaW.PrintLast Go.Proofs.YtamfhlafhkgapaaW.PrintMore
attribute [local go_sem] max2_int min2_int max_two min_two max_three min_three max_four min_four   -- for this text's walks alone
set_option linter.unusedVariables false
set_option linter.unusedSimpArgs false

/-! ### colophonlaw01_FixedScales: function 8 -/
def colophonlaw01_FixedScales.f (k : Nat) (a0 : Int) (a1 : Int) (a2 : Int) : Option (Bool) := (fixed_Scale.f k a0 a1 a2).bind fun bt261 => ((colophonref01_Scale.f k a0 a1 a2).bind fun bt263 => (if bt261.1 = bt263.1 then (if (bt261.2 == bt263.2) = true then ((colophonlaw01_wakes.f).bind fun t265 => (some t265)) else (some false)) else (some false)))
theorem colophonlaw01_FixedScales.mono : ∀ a0 a1 a2 k, LeO (colophonlaw01_FixedScales.f k a0 a1 a2) (colophonlaw01_FixedScales.f (k + 1) a0 a1 a2) := by
  intro a0 a1 a2 k
  unfold colophonlaw01_FixedScales.f
  repeat' first
      | (with_reducible exact colophonref01_Scale.mono _ _ _ _)
      | (with_reducible exact fixed_Scale.mono _ _ _ _)
      | (with_reducible exact LeO.refl _)
      | (with_reducible exact LeO.none _)
      | (with_reducible refine LeO.ite ?_ ?_)
      | (with_reducible refine LeO.bind ?_ (fun _ => ?_))
      | exact colophonref01_Scale.mono _ _ _ _
      | exact fixed_Scale.mono _ _ _ _
      | exact LeO.none _
      | refine LeO.ite ?_ ?_
      | refine LeO.bind ?_ (fun _ => ?_)
set_option maxHeartbeats 8000000 in
set_option maxRecDepth 100000 in
theorem colophonlaw01_FixedScales.calls (k : Nat) (a0 : Int) (a1 : Int) (a2 : Int) (r : Bool) (w : World) (h : colophonlaw01_FixedScales.f k a0 a1 a2 = some r) :
    Calls Try.prog 8 #[.int .i64 a0, .int .i64 a1, .int .i64 a2] w fun e w' => e = .returned (.bool r) ∧ Drawn0 w w' := by
  have H : ((fixed_Scale.f k a0 a1 a2).bind fun bt261 => ((colophonref01_Scale.f k a0 a1 a2).bind fun bt263 => (if bt261.1 = bt263.1 then (if (bt261.2 == bt263.2) = true then ((colophonlaw01_wakes.f).bind fun t265 => (some t265)) else (some false)) else (some false)))) = some r := h
  clear h
  replace H := Option.bind_eq_some_iff.mp H
  obtain ⟨⟨t261, t262⟩, A40, H⟩ := H
  replace H : ((colophonref01_Scale.f k a0 a1 a2).bind fun bt263 => (if t261 = bt263.1 then (if (t262 == bt263.2) = true then ((colophonlaw01_wakes.f).bind fun t265 => (some t265)) else (some false)) else (some false))) = some r := H
  have A4 := Aside0.mk A40
  clear A40
  replace H := Option.bind_eq_some_iff.mp H
  obtain ⟨⟨t263, t264⟩, A50, H⟩ := H
  replace H : (if t261 = t263 then (if (t262 == t264) = true then ((colophonlaw01_wakes.f).bind fun t265 => (some t265)) else (some false)) else (some false)) = some r := H
  have A5 := Aside0.mk A50
  clear A50
  by_cases c6 : t261 = t263
  · rw [if_pos c6] at H
    have c6b0 : (t261 == t263) = true := beq_iff_eq.mpr c6
    have c6b1 : (t261 != t263) = false := bne_eq_false_iff_eq.mpr c6
    clear c6
    by_cases c7 : (t262 == t264) = true
    · rw [if_pos c7] at H
      have c7b0 : (t262 == t264) = true := c7
      (try (have c7b1 : decide (t262 = t264) = true := by simpa using c7))
      (try (have c7b2 : (t262 == t264) = true := by simpa using c7))
      clear c7
      replace H := Option.bind_eq_some_iff.mp H
      obtain ⟨t265, A80, H⟩ := H
      replace H : (some t265) = some r := H
      have A8 := Aside0.mk A80
      clear A80
      obtain rfl := Option.some.inj H
      go_enter Try.func8, Try.ntmps8
      go_wp2_with (first | ((with_reducible refine gate_callee (f := 27) rfl ?_); refine goesL_ (some 15) rfl rfl Try.func27 (by kernel_rfl) rfl #[.int .i64 a0, .int .i64 a1, .int .i64 a2] rfl (by (try simp only [List.map_toArray, List.map_cons, List.map_nil]); first | done | rfl | (simp only [List.length_drop, List.length_take]; rfl)) ?_; (with_reducible refine (fixed_Scale.calls k a0 a1 a2 t261 t262 _ A4.out).mono ?_); rintro e w' ⟨rfl, ⟨nd, rfl⟩⟩; refine ⟨_, rfl, ?_⟩) | ((with_reducible refine gate_callee (f := 28) rfl ?_); refine goesL_ (some 22) rfl rfl Try.func28 (by kernel_rfl) rfl #[.int .i64 a0, .int .i64 a1, .int .i64 a2] rfl (by (try simp only [List.map_toArray, List.map_cons, List.map_nil]); first | done | rfl | (simp only [List.length_drop, List.length_take]; rfl)) ?_; (with_reducible refine (colophonref01_Scale.calls k a0 a1 a2 t263 t264 _ A5.out).mono ?_); rintro e w' ⟨rfl, ⟨nd, rfl⟩⟩; refine ⟨_, rfl, ?_⟩) | (go_at_call 18; (with_reducible refine (colophonlaw01_wakes.calls  t265 _ A8.out).mono ?_); rintro e w' ⟨rfl, ⟨nd, rfl⟩⟩))
      go_ret
      exact ⟨by first | rfl | (simp; done) | (simp [*]; done), by repeat (first | exact Drawn0.refl _ | apply Drawn0.step)⟩
    · rw [if_neg c7] at H
      have c7b0 : (t262 == t264) = false := by simpa using c7
      (try (have c7b1 : decide (t262 = t264) = false := by simpa using c7))
      (try (have c7b2 : (t262 == t264) = false := by simpa using c7))
      (try (have c7b3 : ¬ (t262 = t264) := by simpa using c7))
      clear c7
      obtain rfl := Option.some.inj H
      go_enter Try.func8, Try.ntmps8
      go_wp2_with (first | ((with_reducible refine gate_callee (f := 27) rfl ?_); refine goesL_ (some 15) rfl rfl Try.func27 (by kernel_rfl) rfl #[.int .i64 a0, .int .i64 a1, .int .i64 a2] rfl (by (try simp only [List.map_toArray, List.map_cons, List.map_nil]); first | done | rfl | (simp only [List.length_drop, List.length_take]; rfl)) ?_; (with_reducible refine (fixed_Scale.calls k a0 a1 a2 t261 t262 _ A4.out).mono ?_); rintro e w' ⟨rfl, ⟨nd, rfl⟩⟩; refine ⟨_, rfl, ?_⟩) | ((with_reducible refine gate_callee (f := 28) rfl ?_); refine goesL_ (some 22) rfl rfl Try.func28 (by kernel_rfl) rfl #[.int .i64 a0, .int .i64 a1, .int .i64 a2] rfl (by (try simp only [List.map_toArray, List.map_cons, List.map_nil]); first | done | rfl | (simp only [List.length_drop, List.length_take]; rfl)) ?_; (with_reducible refine (colophonref01_Scale.calls k a0 a1 a2 t263 t264 _ A5.out).mono ?_); rintro e w' ⟨rfl, ⟨nd, rfl⟩⟩; refine ⟨_, rfl, ?_⟩))
      go_ret
      exact ⟨by first | rfl | (simp; done) | (simp [*]; done), by repeat (first | exact Drawn0.refl _ | apply Drawn0.step)⟩
  · rw [if_neg c6] at H
    have c6b0 : (t261 == t263) = false := beq_eq_false_iff_ne.mpr c6
    have c6b1 : (t261 != t263) = true := bne_iff_ne.mpr c6
    obtain rfl := Option.some.inj H
    go_enter Try.func8, Try.ntmps8
    go_wp2_with (first | ((with_reducible refine gate_callee (f := 27) rfl ?_); refine goesL_ (some 15) rfl rfl Try.func27 (by kernel_rfl) rfl #[.int .i64 a0, .int .i64 a1, .int .i64 a2] rfl (by (try simp only [List.map_toArray, List.map_cons, List.map_nil]); first | done | rfl | (simp only [List.length_drop, List.length_take]; rfl)) ?_; (with_reducible refine (fixed_Scale.calls k a0 a1 a2 t261 t262 _ A4.out).mono ?_); rintro e w' ⟨rfl, ⟨nd, rfl⟩⟩; refine ⟨_, rfl, ?_⟩) | ((with_reducible refine gate_callee (f := 28) rfl ?_); refine goesL_ (some 22) rfl rfl Try.func28 (by kernel_rfl) rfl #[.int .i64 a0, .int .i64 a1, .int .i64 a2] rfl (by (try simp only [List.map_toArray, List.map_cons, List.map_nil]); first | done | rfl | (simp only [List.length_drop, List.length_take]; rfl)) ?_; (with_reducible refine (colophonref01_Scale.calls k a0 a1 a2 t263 t264 _ A5.out).mono ?_); rintro e w' ⟨rfl, ⟨nd, rfl⟩⟩; refine ⟨_, rfl, ?_⟩))
    go_ret
    exact ⟨by first | rfl | (simp; done) | (simp [*]; done), by repeat (first | exact Drawn0.refl _ | apply Drawn0.step)⟩

/-- THE ONE PURE STATEMENT of colophonlaw01_FixedScales: yours. -/
def colophonlaw01_FixedScales.Pure : Prop := ∀ (a0 : Int) (a1 : Int) (a2 : Int), (Lit.int .i64 a0).wf = true → (Lit.int .i64 a1).wf = true → (Lit.int .i64 a2).wf = true → ∃ k, colophonlaw01_FixedScales.f k a0 a1 a2 = some true
theorem colophonlaw01_FixedScales.walk (P : colophonlaw01_FixedScales.Pure) (a0 : Int) (a1 : Int) (a2 : Int) (w : World) (w0 : (Lit.int .i64 a0).wf = true) (w1 : (Lit.int .i64 a1).wf = true) (w2 : (Lit.int .i64 a2).wf = true) :
    Calls Try.prog 8 #[.int .i64 a0, .int .i64 a1, .int .i64 a2] w fun e w' => e = .returned (.bool true) ∧ Below w.heap.size w w' := by
  obtain ⟨k, h⟩ := P a0 a1 a2 w0 w1 w2
  refine (colophonlaw01_FixedScales.calls k a0 a1 a2 true w h).mono ?_
  rintro e w' ⟨rfl, hd⟩
  exact ⟨rfl, hd.below⟩

/-! ### colophonlaw01_FixedNearest: function 9 -/
def colophonlaw01_FixedNearest.j0 : Nat → Int → Int → Int → Bool → Option (Bool)
  | 0, _, _, _, _ => none
  | k + 1, x0, x1, x2, x32 => if x32 = true then ((colophonlaw01_wakes.f).bind fun t266 => (some t266)) else ((fixed_Scale.f k x0 x1 x2).bind fun bt267 => ((fixed_Floor.f k x0 x1 x2).bind fun bt269 => (if bt267.2 = true then (if (wrap64 (2 * (wrap64 ((wrap64 (x0 * x1)) - (wrap64 (x2 * bt267.1)))))) < (wrap64 (-x2)) then (some false) else (if (wrap64 (2 * (wrap64 ((wrap64 (x0 * x1)) - (wrap64 (x2 * bt267.1)))))) ≥ x2 then (some false) else (if bt269.2 = true then (if (wrap64 ((wrap64 (x0 * x1)) - (wrap64 (x2 * bt269.1)))) < 0 then (some false) else (if (wrap64 ((wrap64 (x0 * x1)) - (wrap64 (x2 * bt269.1)))) ≥ x2 then (some false) else (if bt267.1 = bt269.1 then ((colophonlaw01_wakes.f).bind fun t271 => (some t271)) else (if bt267.1 = (wrap64 (bt269.1 + 1)) then ((colophonlaw01_wakes.f).bind fun t272 => (some t272)) else (some false))))) else ((colophonlaw01_wakes.f).bind fun t273 => (some t273))))) else (if bt269.2 = true then (if (wrap64 ((wrap64 (x0 * x1)) - (wrap64 (x2 * bt269.1)))) < 0 then (some false) else (if (wrap64 ((wrap64 (x0 * x1)) - (wrap64 (x2 * bt269.1)))) ≥ x2 then (some false) else (if x2 = 0 then (none) else (if (wrap64 (Int.tdiv (wrap64 (x0 * x1)) x2)) > 549755813888 then ((colophonlaw01_wakes.f).bind fun t274 => (some t274)) else (if (wrap64 (Int.tdiv (wrap64 (x0 * x1)) x2)) < (-549755813888) then ((colophonlaw01_wakes.f).bind fun t275 => (some t275)) else (some false)))))) else (if x2 = 0 then (none) else (if (wrap64 (Int.tdiv (wrap64 (x0 * x1)) x2)) > 549755813888 then ((colophonlaw01_wakes.f).bind fun t276 => (some t276)) else (if (wrap64 (Int.tdiv (wrap64 (x0 * x1)) x2)) < (-549755813888) then ((colophonlaw01_wakes.f).bind fun t277 => (some t277)) else (some false))))))))
def colophonlaw01_FixedNearest.f (k : Nat) (a0 : Int) (a1 : Int) (a2 : Int) : Option (Bool) := if a0 < (-1000000) then (colophonlaw01_FixedNearest.j0 k a0 a1 a2 true) else (if a0 > 1000000 then (colophonlaw01_FixedNearest.j0 k a0 a1 a2 true) else (if a1 < (-1000000) then (colophonlaw01_FixedNearest.j0 k a0 a1 a2 true) else (if a1 > 1000000 then (colophonlaw01_FixedNearest.j0 k a0 a1 a2 true) else (if a2 < 1 then (colophonlaw01_FixedNearest.j0 k a0 a1 a2 true) else (colophonlaw01_FixedNearest.j0 k a0 a1 a2 (decide (a2 > 1000000)))))))
theorem colophonlaw01_FixedNearest.mono_l : ∀ k, (∀ y0 y1 y2 y3, LeO (colophonlaw01_FixedNearest.j0 k y0 y1 y2 y3) (colophonlaw01_FixedNearest.j0 (k + 1) y0 y1 y2 y3))
  | 0 => fun _ _ _ _ r h => by simp [colophonlaw01_FixedNearest.j0] at h
  | k + 1 => by
    have ih0 := colophonlaw01_FixedNearest.mono_l k
    · intro y0 y1 y2 y3
      unfold colophonlaw01_FixedNearest.j0
      repeat' first
      | (with_reducible exact ih0 _ _ _ _)
      | (with_reducible exact fixed_Floor.mono _ _ _ _)
      | (with_reducible exact fixed_Scale.mono _ _ _ _)
      | (with_reducible exact LeO.refl _)
      | (with_reducible exact LeO.none _)
      | (with_reducible refine LeO.ite ?_ ?_)
      | (with_reducible refine LeO.bind ?_ (fun _ => ?_))
      | exact ih0 _ _ _ _
      | exact fixed_Floor.mono _ _ _ _
      | exact fixed_Scale.mono _ _ _ _
      | exact LeO.none _
      | refine LeO.ite ?_ ?_
      | refine LeO.bind ?_ (fun _ => ?_)
theorem colophonlaw01_FixedNearest.mono : ∀ a0 a1 a2 k, LeO (colophonlaw01_FixedNearest.f k a0 a1 a2) (colophonlaw01_FixedNearest.f (k + 1) a0 a1 a2) := by
  intro a0 a1 a2 k
  have ih0 := colophonlaw01_FixedNearest.mono_l k
  unfold colophonlaw01_FixedNearest.f
  repeat' first
      | (with_reducible exact ih0 _ _ _ _)
      | (with_reducible exact fixed_Floor.mono _ _ _ _)
      | (with_reducible exact fixed_Scale.mono _ _ _ _)
      | (with_reducible exact LeO.refl _)
      | (with_reducible exact LeO.none _)
      | (with_reducible refine LeO.ite ?_ ?_)
      | (with_reducible refine LeO.bind ?_ (fun _ => ?_))
      | exact ih0 _ _ _ _
      | exact fixed_Floor.mono _ _ _ _
      | exact fixed_Scale.mono _ _ _ _
      | exact LeO.none _
      | refine LeO.ite ?_ ?_
      | refine LeO.bind ?_ (fun _ => ?_)
set_option maxHeartbeats 8000000 in
set_option maxRecDepth 100000 in
theorem colophonlaw01_FixedNearest.calls (k : Nat) (a0 : Int) (a1 : Int) (a2 : Int) (r : Bool) (w : World) (h : colophonlaw01_FixedNearest.f k a0 a1 a2 = some r) :
    Calls Try.prog 9 #[.int .i64 a0, .int .i64 a1, .int .i64 a2] w fun e w' => e = .returned (.bool r) ∧ Drawn0 w w' := by
  have H : (if a0 < (-1000000) then (colophonlaw01_FixedNearest.j0 k a0 a1 a2 true) else (if a0 > 1000000 then (colophonlaw01_FixedNearest.j0 k a0 a1 a2 true) else (if a1 < (-1000000) then (colophonlaw01_FixedNearest.j0 k a0 a1 a2 true) else (if a1 > 1000000 then (colophonlaw01_FixedNearest.j0 k a0 a1 a2 true) else (if a2 < 1 then (colophonlaw01_FixedNearest.j0 k a0 a1 a2 true) else (colophonlaw01_FixedNearest.j0 k a0 a1 a2 (decide (a2 > 1000000)))))))) = some r := h
  clear h
  have HC4 := Aside0.mk H
  clear H
  go_enter Try.func9, Try.ntmps9
  go_upto_region 1 with (fail)
  go_cut [32] (fun v32 wc => ∃ (kq : Nat) (x32_3 : Bool), v32 = .bool x32_3 ∧ Aside0 (colophonlaw01_FixedNearest.j0 kq a0 a1 a2 x32_3 = some r) ∧ Aside0 (kq ≤ k) ∧ Drawn0 w wc)
  case first =>
    have H := HC4.out
    clear HC4
    by_cases c5 : a0 < (-1000000)
    · rw [if_pos c5] at H
      have c5b0 : decide (a0 < (-1000000)) = true := decide_eq_true c5
      clear c5
      (first | rw [c5b0] | (simp only [i64_w, i32_w]; rw [c5b0]) | skip)
      have H' := Aside0.mk H
      clear H
      go_wp2
      go_meet
      case rel => exact ⟨_, (true), (by first | rfl | (simp; done) | (simp [*]; done)), H', ⟨by first | omega | exact Nat.le_refl _⟩, by repeat (first | exact Drawn0.refl _ | apply Drawn0.step)⟩
    · rw [if_neg c5] at H
      have c5b0 : decide (a0 < (-1000000)) = false := decide_eq_false c5
      clear c5
      (first | rw [c5b0] | (simp only [i64_w, i32_w]; rw [c5b0]) | skip)
      by_cases c6 : a0 > 1000000
      · rw [if_pos c6] at H
        have c6b0 : decide (1000000 < a0) = true := decide_eq_true c6
        clear c6
        have H' := Aside0.mk H
        clear H
        go_wp2
        go_meet
        case rel => exact ⟨_, (true), (by first | rfl | (simp; done) | (simp [*]; done)), H', ⟨by first | omega | exact Nat.le_refl _⟩, by repeat (first | exact Drawn0.refl _ | apply Drawn0.step)⟩
      · rw [if_neg c6] at H
        have c6b0 : decide (1000000 < a0) = false := decide_eq_false c6
        clear c6
        by_cases c7 : a1 < (-1000000)
        · rw [if_pos c7] at H
          have c7b0 : decide (a1 < (-1000000)) = true := decide_eq_true c7
          clear c7
          have H' := Aside0.mk H
          clear H
          go_wp2
          go_meet
          case rel => exact ⟨_, (true), (by first | rfl | (simp; done) | (simp [*]; done)), H', ⟨by first | omega | exact Nat.le_refl _⟩, by repeat (first | exact Drawn0.refl _ | apply Drawn0.step)⟩
        · rw [if_neg c7] at H
          have c7b0 : decide (a1 < (-1000000)) = false := decide_eq_false c7
          clear c7
          by_cases c8 : a1 > 1000000
          · rw [if_pos c8] at H
            have c8b0 : decide (1000000 < a1) = true := decide_eq_true c8
            clear c8
            have H' := Aside0.mk H
            clear H
            go_wp2
            go_meet
            case rel => exact ⟨_, (true), (by first | rfl | (simp; done) | (simp [*]; done)), H', ⟨by first | omega | exact Nat.le_refl _⟩, by repeat (first | exact Drawn0.refl _ | apply Drawn0.step)⟩
          · rw [if_neg c8] at H
            have c8b0 : decide (1000000 < a1) = false := decide_eq_false c8
            clear c8
            by_cases c9 : a2 < 1
            · rw [if_pos c9] at H
              have c9b0 : decide (a2 < 1) = true := decide_eq_true c9
              clear c9
              have H' := Aside0.mk H
              clear H
              go_wp2
              go_meet
              case rel => exact ⟨_, (true), (by first | rfl | (simp; done) | (simp [*]; done)), H', ⟨by first | omega | exact Nat.le_refl _⟩, by repeat (first | exact Drawn0.refl _ | apply Drawn0.step)⟩
            · rw [if_neg c9] at H
              have c9b0 : decide (a2 < 1) = false := decide_eq_false c9
              clear c9
              have H' := Aside0.mk H
              clear H
              go_wp2
              go_meet
              case rel => exact ⟨_, (decide (a2 > 1000000)), (by first | rfl | (simp; done) | (simp [*]; done)), H', ⟨by first | omega | exact Nat.le_refl _⟩, by repeat (first | exact Drawn0.refl _ | apply Drawn0.step)⟩
  case rest =>
    clear HC4
    try clear p2
    try clear c5
    try clear c5b0
    try clear c6
    try clear c6b0
    try clear c7
    try clear c7b0
    try clear c8
    try clear c8b0
    try clear c9
    try clear c9b0
    obtain ⟨kq, x32_3, rfl, HA, HJ3, ⟨mc3, rfl⟩⟩ := hcut
    cases kq with
    | zero => exact absurd HA.out (by simp [colophonlaw01_FixedNearest.j0])
    | succ kj3 =>
      have H := HA.out
      clear HA
      simp only [colophonlaw01_FixedNearest.j0] at H
      by_cases c10 : x32_3 = true
      · subst c10
        have H1 : ((colophonlaw01_wakes.f).bind fun t266 => (some t266)) = some r := by rw [if_pos rfl] at H; exact H
        clear H
        have H := H1
        clear H1
        replace H := Option.bind_eq_some_iff.mp H
        obtain ⟨t266, A110, H⟩ := H
        replace H : (some t266) = some r := H
        have A11 := Aside0.mk A110
        clear A110
        obtain rfl := Option.some.inj H
        go_wp2_with (first | ((with_reducible refine gate_callee (f := 18) rfl ?_); refine goesL_ (some 33) rfl rfl Try.func18 (by kernel_rfl) rfl #[] rfl (by (try simp only [List.map_toArray, List.map_cons, List.map_nil]); first | done | rfl | (simp only [List.length_drop, List.length_take]; rfl)) ?_; (with_reducible refine (colophonlaw01_wakes.calls  t266 _ A11.out).mono ?_); rintro e w' ⟨rfl, ⟨nd, rfl⟩⟩; refine ⟨_, rfl, ?_⟩))
        go_ret
        exact ⟨by first | rfl | (simp; done) | (simp [*]; done), by repeat (first | exact Drawn0.refl _ | apply Drawn0.step)⟩
      · replace c10 := Bool.eq_false_iff.mpr c10
        subst c10
        have H1 : ((fixed_Scale.f kj3 a0 a1 a2).bind fun bt267 => ((fixed_Floor.f kj3 a0 a1 a2).bind fun bt269 => (if bt267.2 = true then (if (wrap64 (2 * (wrap64 ((wrap64 (a0 * a1)) - (wrap64 (a2 * bt267.1)))))) < (wrap64 (-a2)) then (some false) else (if (wrap64 (2 * (wrap64 ((wrap64 (a0 * a1)) - (wrap64 (a2 * bt267.1)))))) ≥ a2 then (some false) else (if bt269.2 = true then (if (wrap64 ((wrap64 (a0 * a1)) - (wrap64 (a2 * bt269.1)))) < 0 then (some false) else (if (wrap64 ((wrap64 (a0 * a1)) - (wrap64 (a2 * bt269.1)))) ≥ a2 then (some false) else (if bt267.1 = bt269.1 then ((colophonlaw01_wakes.f).bind fun t271 => (some t271)) else (if bt267.1 = (wrap64 (bt269.1 + 1)) then ((colophonlaw01_wakes.f).bind fun t272 => (some t272)) else (some false))))) else ((colophonlaw01_wakes.f).bind fun t273 => (some t273))))) else (if bt269.2 = true then (if (wrap64 ((wrap64 (a0 * a1)) - (wrap64 (a2 * bt269.1)))) < 0 then (some false) else (if (wrap64 ((wrap64 (a0 * a1)) - (wrap64 (a2 * bt269.1)))) ≥ a2 then (some false) else (if a2 = 0 then (none) else (if (wrap64 (Int.tdiv (wrap64 (a0 * a1)) a2)) > 549755813888 then ((colophonlaw01_wakes.f).bind fun t274 => (some t274)) else (if (wrap64 (Int.tdiv (wrap64 (a0 * a1)) a2)) < (-549755813888) then ((colophonlaw01_wakes.f).bind fun t275 => (some t275)) else (some false)))))) else (if a2 = 0 then (none) else (if (wrap64 (Int.tdiv (wrap64 (a0 * a1)) a2)) > 549755813888 then ((colophonlaw01_wakes.f).bind fun t276 => (some t276)) else (if (wrap64 (Int.tdiv (wrap64 (a0 * a1)) a2)) < (-549755813888) then ((colophonlaw01_wakes.f).bind fun t277 => (some t277)) else (some false)))))))) = some r := by rw [if_neg (show ¬ (false = true) by decide)] at H; exact H
        clear H
        have H := H1
        clear H1
        replace H := Option.bind_eq_some_iff.mp H
        obtain ⟨⟨t267, t268⟩, A120, H⟩ := H
        replace H : ((fixed_Floor.f kj3 a0 a1 a2).bind fun bt269 => (if t268 = true then (if (wrap64 (2 * (wrap64 ((wrap64 (a0 * a1)) - (wrap64 (a2 * t267)))))) < (wrap64 (-a2)) then (some false) else (if (wrap64 (2 * (wrap64 ((wrap64 (a0 * a1)) - (wrap64 (a2 * t267)))))) ≥ a2 then (some false) else (if bt269.2 = true then (if (wrap64 ((wrap64 (a0 * a1)) - (wrap64 (a2 * bt269.1)))) < 0 then (some false) else (if (wrap64 ((wrap64 (a0 * a1)) - (wrap64 (a2 * bt269.1)))) ≥ a2 then (some false) else (if t267 = bt269.1 then ((colophonlaw01_wakes.f).bind fun t271 => (some t271)) else (if t267 = (wrap64 (bt269.1 + 1)) then ((colophonlaw01_wakes.f).bind fun t272 => (some t272)) else (some false))))) else ((colophonlaw01_wakes.f).bind fun t273 => (some t273))))) else (if bt269.2 = true then (if (wrap64 ((wrap64 (a0 * a1)) - (wrap64 (a2 * bt269.1)))) < 0 then (some false) else (if (wrap64 ((wrap64 (a0 * a1)) - (wrap64 (a2 * bt269.1)))) ≥ a2 then (some false) else (if a2 = 0 then (none) else (if (wrap64 (Int.tdiv (wrap64 (a0 * a1)) a2)) > 549755813888 then ((colophonlaw01_wakes.f).bind fun t274 => (some t274)) else (if (wrap64 (Int.tdiv (wrap64 (a0 * a1)) a2)) < (-549755813888) then ((colophonlaw01_wakes.f).bind fun t275 => (some t275)) else (some false)))))) else (if a2 = 0 then (none) else (if (wrap64 (Int.tdiv (wrap64 (a0 * a1)) a2)) > 549755813888 then ((colophonlaw01_wakes.f).bind fun t276 => (some t276)) else (if (wrap64 (Int.tdiv (wrap64 (a0 * a1)) a2)) < (-549755813888) then ((colophonlaw01_wakes.f).bind fun t277 => (some t277)) else (some false))))))) = some r := H
        have A12 := Aside0.mk A120
        clear A120
        replace H := Option.bind_eq_some_iff.mp H
        obtain ⟨⟨t269, t270⟩, A130, H⟩ := H
        replace H : (if t268 = true then (if (wrap64 (2 * (wrap64 ((wrap64 (a0 * a1)) - (wrap64 (a2 * t267)))))) < (wrap64 (-a2)) then (some false) else (if (wrap64 (2 * (wrap64 ((wrap64 (a0 * a1)) - (wrap64 (a2 * t267)))))) ≥ a2 then (some false) else (if t270 = true then (if (wrap64 ((wrap64 (a0 * a1)) - (wrap64 (a2 * t269)))) < 0 then (some false) else (if (wrap64 ((wrap64 (a0 * a1)) - (wrap64 (a2 * t269)))) ≥ a2 then (some false) else (if t267 = t269 then ((colophonlaw01_wakes.f).bind fun t271 => (some t271)) else (if t267 = (wrap64 (t269 + 1)) then ((colophonlaw01_wakes.f).bind fun t272 => (some t272)) else (some false))))) else ((colophonlaw01_wakes.f).bind fun t273 => (some t273))))) else (if t270 = true then (if (wrap64 ((wrap64 (a0 * a1)) - (wrap64 (a2 * t269)))) < 0 then (some false) else (if (wrap64 ((wrap64 (a0 * a1)) - (wrap64 (a2 * t269)))) ≥ a2 then (some false) else (if a2 = 0 then (none) else (if (wrap64 (Int.tdiv (wrap64 (a0 * a1)) a2)) > 549755813888 then ((colophonlaw01_wakes.f).bind fun t274 => (some t274)) else (if (wrap64 (Int.tdiv (wrap64 (a0 * a1)) a2)) < (-549755813888) then ((colophonlaw01_wakes.f).bind fun t275 => (some t275)) else (some false)))))) else (if a2 = 0 then (none) else (if (wrap64 (Int.tdiv (wrap64 (a0 * a1)) a2)) > 549755813888 then ((colophonlaw01_wakes.f).bind fun t276 => (some t276)) else (if (wrap64 (Int.tdiv (wrap64 (a0 * a1)) a2)) < (-549755813888) then ((colophonlaw01_wakes.f).bind fun t277 => (some t277)) else (some false)))))) = some r := H
        have A13 := Aside0.mk A130
        clear A130
        by_cases c14 : t268 = true
        · subst c14
          have H1 : (if (wrap64 (2 * (wrap64 ((wrap64 (a0 * a1)) - (wrap64 (a2 * t267)))))) < (wrap64 (-a2)) then (some false) else (if (wrap64 (2 * (wrap64 ((wrap64 (a0 * a1)) - (wrap64 (a2 * t267)))))) ≥ a2 then (some false) else (if t270 = true then (if (wrap64 ((wrap64 (a0 * a1)) - (wrap64 (a2 * t269)))) < 0 then (some false) else (if (wrap64 ((wrap64 (a0 * a1)) - (wrap64 (a2 * t269)))) ≥ a2 then (some false) else (if t267 = t269 then ((colophonlaw01_wakes.f).bind fun t271 => (some t271)) else (if t267 = (wrap64 (t269 + 1)) then ((colophonlaw01_wakes.f).bind fun t272 => (some t272)) else (some false))))) else ((colophonlaw01_wakes.f).bind fun t273 => (some t273))))) = some r := by rw [if_pos rfl] at H; exact H
          clear H
          have H := H1
          clear H1
          by_cases c15 : (wrap64 (2 * (wrap64 ((wrap64 (a0 * a1)) - (wrap64 (a2 * t267)))))) < (wrap64 (-a2))
          · rw [if_pos c15] at H
            have c15b0 : decide ((wrap64 (2 * (wrap64 ((wrap64 (a0 * a1)) - (wrap64 (a2 * t267)))))) < (wrap64 (-a2))) = true := decide_eq_true c15
            clear c15
            obtain rfl := Option.some.inj H
            go_wp2_with (first | ((with_reducible refine gate_callee (f := 27) rfl ?_); refine goesL_ (some 38) rfl rfl Try.func27 (by kernel_rfl) rfl #[.int .i64 a0, .int .i64 a1, .int .i64 a2] rfl (by (try simp only [List.map_toArray, List.map_cons, List.map_nil]); first | done | rfl | (simp only [List.length_drop, List.length_take]; rfl)) ?_; (with_reducible refine (fixed_Scale.calls kj3 a0 a1 a2 t267 true _ A12.out).mono ?_); rintro e w' ⟨rfl, ⟨nd, rfl⟩⟩; refine ⟨_, rfl, ?_⟩) | ((with_reducible refine gate_callee (f := 25) rfl ?_); refine goesL_ (some 45) rfl rfl Try.func25 (by kernel_rfl) rfl #[.int .i64 a0, .int .i64 a1, .int .i64 a2] rfl (by (try simp only [List.map_toArray, List.map_cons, List.map_nil]); first | done | rfl | (simp only [List.length_drop, List.length_take]; rfl)) ?_; (with_reducible refine (fixed_Floor.calls kj3 a0 a1 a2 t269 t270 _ A13.out).mono ?_); rintro e w' ⟨rfl, ⟨nd, rfl⟩⟩; refine ⟨_, rfl, ?_⟩))
            go_ret
            exact ⟨by first | rfl | (simp; done) | (simp [*]; done), by repeat (first | exact Drawn0.refl _ | apply Drawn0.step)⟩
          · rw [if_neg c15] at H
            have c15b0 : decide ((wrap64 (2 * (wrap64 ((wrap64 (a0 * a1)) - (wrap64 (a2 * t267)))))) < (wrap64 (-a2))) = false := decide_eq_false c15
            clear c15
            by_cases c16 : (wrap64 (2 * (wrap64 ((wrap64 (a0 * a1)) - (wrap64 (a2 * t267)))))) ≥ a2
            · rw [if_pos c16] at H
              have c16b0 : decide (a2 ≤ (wrap64 (2 * (wrap64 ((wrap64 (a0 * a1)) - (wrap64 (a2 * t267))))))) = true := decide_eq_true c16
              clear c16
              obtain rfl := Option.some.inj H
              go_wp2_with (first | ((with_reducible refine gate_callee (f := 27) rfl ?_); refine goesL_ (some 38) rfl rfl Try.func27 (by kernel_rfl) rfl #[.int .i64 a0, .int .i64 a1, .int .i64 a2] rfl (by (try simp only [List.map_toArray, List.map_cons, List.map_nil]); first | done | rfl | (simp only [List.length_drop, List.length_take]; rfl)) ?_; (with_reducible refine (fixed_Scale.calls kj3 a0 a1 a2 t267 true _ A12.out).mono ?_); rintro e w' ⟨rfl, ⟨nd, rfl⟩⟩; refine ⟨_, rfl, ?_⟩) | ((with_reducible refine gate_callee (f := 25) rfl ?_); refine goesL_ (some 45) rfl rfl Try.func25 (by kernel_rfl) rfl #[.int .i64 a0, .int .i64 a1, .int .i64 a2] rfl (by (try simp only [List.map_toArray, List.map_cons, List.map_nil]); first | done | rfl | (simp only [List.length_drop, List.length_take]; rfl)) ?_; (with_reducible refine (fixed_Floor.calls kj3 a0 a1 a2 t269 t270 _ A13.out).mono ?_); rintro e w' ⟨rfl, ⟨nd, rfl⟩⟩; refine ⟨_, rfl, ?_⟩))
              go_ret
              exact ⟨by first | rfl | (simp; done) | (simp [*]; done), by repeat (first | exact Drawn0.refl _ | apply Drawn0.step)⟩
            · rw [if_neg c16] at H
              have c16b0 : decide (a2 ≤ (wrap64 (2 * (wrap64 ((wrap64 (a0 * a1)) - (wrap64 (a2 * t267))))))) = false := decide_eq_false c16
              clear c16
              by_cases c17 : t270 = true
              · subst c17
                have H1 : (if (wrap64 ((wrap64 (a0 * a1)) - (wrap64 (a2 * t269)))) < 0 then (some false) else (if (wrap64 ((wrap64 (a0 * a1)) - (wrap64 (a2 * t269)))) ≥ a2 then (some false) else (if t267 = t269 then ((colophonlaw01_wakes.f).bind fun t271 => (some t271)) else (if t267 = (wrap64 (t269 + 1)) then ((colophonlaw01_wakes.f).bind fun t272 => (some t272)) else (some false))))) = some r := by rw [if_pos rfl] at H; exact H
                clear H
                have H := H1
                clear H1
                by_cases c18 : (wrap64 ((wrap64 (a0 * a1)) - (wrap64 (a2 * t269)))) < 0
                · rw [if_pos c18] at H
                  have c18b0 : decide ((wrap64 ((wrap64 (a0 * a1)) - (wrap64 (a2 * t269)))) < 0) = true := decide_eq_true c18
                  clear c18
                  obtain rfl := Option.some.inj H
                  go_wp2_with (first | ((with_reducible refine gate_callee (f := 27) rfl ?_); refine goesL_ (some 38) rfl rfl Try.func27 (by kernel_rfl) rfl #[.int .i64 a0, .int .i64 a1, .int .i64 a2] rfl (by (try simp only [List.map_toArray, List.map_cons, List.map_nil]); first | done | rfl | (simp only [List.length_drop, List.length_take]; rfl)) ?_; (with_reducible refine (fixed_Scale.calls kj3 a0 a1 a2 t267 true _ A12.out).mono ?_); rintro e w' ⟨rfl, ⟨nd, rfl⟩⟩; refine ⟨_, rfl, ?_⟩) | ((with_reducible refine gate_callee (f := 25) rfl ?_); refine goesL_ (some 45) rfl rfl Try.func25 (by kernel_rfl) rfl #[.int .i64 a0, .int .i64 a1, .int .i64 a2] rfl (by (try simp only [List.map_toArray, List.map_cons, List.map_nil]); first | done | rfl | (simp only [List.length_drop, List.length_take]; rfl)) ?_; (with_reducible refine (fixed_Floor.calls kj3 a0 a1 a2 t269 true _ A13.out).mono ?_); rintro e w' ⟨rfl, ⟨nd, rfl⟩⟩; refine ⟨_, rfl, ?_⟩))
                  go_ret
                  exact ⟨by first | rfl | (simp; done) | (simp [*]; done), by repeat (first | exact Drawn0.refl _ | apply Drawn0.step)⟩
                · rw [if_neg c18] at H
                  have c18b0 : decide ((wrap64 ((wrap64 (a0 * a1)) - (wrap64 (a2 * t269)))) < 0) = false := decide_eq_false c18
                  clear c18
                  by_cases c19 : (wrap64 ((wrap64 (a0 * a1)) - (wrap64 (a2 * t269)))) ≥ a2
                  · rw [if_pos c19] at H
                    have c19b0 : decide (a2 ≤ (wrap64 ((wrap64 (a0 * a1)) - (wrap64 (a2 * t269))))) = true := decide_eq_true c19
                    clear c19
                    obtain rfl := Option.some.inj H
                    go_wp2_with (first | ((with_reducible refine gate_callee (f := 27) rfl ?_); refine goesL_ (some 38) rfl rfl Try.func27 (by kernel_rfl) rfl #[.int .i64 a0, .int .i64 a1, .int .i64 a2] rfl (by (try simp only [List.map_toArray, List.map_cons, List.map_nil]); first | done | rfl | (simp only [List.length_drop, List.length_take]; rfl)) ?_; (with_reducible refine (fixed_Scale.calls kj3 a0 a1 a2 t267 true _ A12.out).mono ?_); rintro e w' ⟨rfl, ⟨nd, rfl⟩⟩; refine ⟨_, rfl, ?_⟩) | ((with_reducible refine gate_callee (f := 25) rfl ?_); refine goesL_ (some 45) rfl rfl Try.func25 (by kernel_rfl) rfl #[.int .i64 a0, .int .i64 a1, .int .i64 a2] rfl (by (try simp only [List.map_toArray, List.map_cons, List.map_nil]); first | done | rfl | (simp only [List.length_drop, List.length_take]; rfl)) ?_; (with_reducible refine (fixed_Floor.calls kj3 a0 a1 a2 t269 true _ A13.out).mono ?_); rintro e w' ⟨rfl, ⟨nd, rfl⟩⟩; refine ⟨_, rfl, ?_⟩))
                    go_ret
                    exact ⟨by first | rfl | (simp; done) | (simp [*]; done), by repeat (first | exact Drawn0.refl _ | apply Drawn0.step)⟩
                  · rw [if_neg c19] at H
                    have c19b0 : decide (a2 ≤ (wrap64 ((wrap64 (a0 * a1)) - (wrap64 (a2 * t269))))) = false := decide_eq_false c19
                    clear c19
                    by_cases c20 : t267 = t269
                    · rw [if_pos c20] at H
                      have c20b0 : (t267 == t269) = true := beq_iff_eq.mpr c20
                      have c20b1 : (t267 != t269) = false := bne_eq_false_iff_eq.mpr c20
                      clear c20
                      replace H := Option.bind_eq_some_iff.mp H
                      obtain ⟨t271, A210, H⟩ := H
                      replace H : (some t271) = some r := H
                      have A21 := Aside0.mk A210
                      clear A210
                      obtain rfl := Option.some.inj H
                      go_wp2_with (first | ((with_reducible refine gate_callee (f := 27) rfl ?_); refine goesL_ (some 38) rfl rfl Try.func27 (by kernel_rfl) rfl #[.int .i64 a0, .int .i64 a1, .int .i64 a2] rfl (by (try simp only [List.map_toArray, List.map_cons, List.map_nil]); first | done | rfl | (simp only [List.length_drop, List.length_take]; rfl)) ?_; (with_reducible refine (fixed_Scale.calls kj3 a0 a1 a2 t267 true _ A12.out).mono ?_); rintro e w' ⟨rfl, ⟨nd, rfl⟩⟩; refine ⟨_, rfl, ?_⟩) | ((with_reducible refine gate_callee (f := 25) rfl ?_); refine goesL_ (some 45) rfl rfl Try.func25 (by kernel_rfl) rfl #[.int .i64 a0, .int .i64 a1, .int .i64 a2] rfl (by (try simp only [List.map_toArray, List.map_cons, List.map_nil]); first | done | rfl | (simp only [List.length_drop, List.length_take]; rfl)) ?_; (with_reducible refine (fixed_Floor.calls kj3 a0 a1 a2 t269 true _ A13.out).mono ?_); rintro e w' ⟨rfl, ⟨nd, rfl⟩⟩; refine ⟨_, rfl, ?_⟩) | (go_at_call 18; (with_reducible refine (colophonlaw01_wakes.calls  t271 _ A21.out).mono ?_); rintro e w' ⟨rfl, ⟨nd, rfl⟩⟩))
                      go_ret
                      exact ⟨by first | rfl | (simp; done) | (simp [*]; done), by repeat (first | exact Drawn0.refl _ | apply Drawn0.step)⟩
                    · rw [if_neg c20] at H
                      have c20b0 : (t267 == t269) = false := beq_eq_false_iff_ne.mpr c20
                      have c20b1 : (t267 != t269) = true := bne_iff_ne.mpr c20
                      by_cases c22 : t267 = (wrap64 (t269 + 1))
                      · rw [if_pos c22] at H
                        have c22b0 : (t267 == (wrap64 (t269 + 1))) = true := beq_iff_eq.mpr c22
                        have c22b1 : (t267 != (wrap64 (t269 + 1))) = false := bne_eq_false_iff_eq.mpr c22
                        clear c22
                        replace H := Option.bind_eq_some_iff.mp H
                        obtain ⟨t272, A230, H⟩ := H
                        replace H : (some t272) = some r := H
                        have A23 := Aside0.mk A230
                        clear A230
                        obtain rfl := Option.some.inj H
                        go_wp2_with (first | ((with_reducible refine gate_callee (f := 27) rfl ?_); refine goesL_ (some 38) rfl rfl Try.func27 (by kernel_rfl) rfl #[.int .i64 a0, .int .i64 a1, .int .i64 a2] rfl (by (try simp only [List.map_toArray, List.map_cons, List.map_nil]); first | done | rfl | (simp only [List.length_drop, List.length_take]; rfl)) ?_; (with_reducible refine (fixed_Scale.calls kj3 a0 a1 a2 t267 true _ A12.out).mono ?_); rintro e w' ⟨rfl, ⟨nd, rfl⟩⟩; refine ⟨_, rfl, ?_⟩) | ((with_reducible refine gate_callee (f := 25) rfl ?_); refine goesL_ (some 45) rfl rfl Try.func25 (by kernel_rfl) rfl #[.int .i64 a0, .int .i64 a1, .int .i64 a2] rfl (by (try simp only [List.map_toArray, List.map_cons, List.map_nil]); first | done | rfl | (simp only [List.length_drop, List.length_take]; rfl)) ?_; (with_reducible refine (fixed_Floor.calls kj3 a0 a1 a2 t269 true _ A13.out).mono ?_); rintro e w' ⟨rfl, ⟨nd, rfl⟩⟩; refine ⟨_, rfl, ?_⟩) | (go_at_call 18; (with_reducible refine (colophonlaw01_wakes.calls  t272 _ A23.out).mono ?_); rintro e w' ⟨rfl, ⟨nd, rfl⟩⟩))
                        go_ret
                        exact ⟨by first | rfl | (simp; done) | (simp [*]; done), by repeat (first | exact Drawn0.refl _ | apply Drawn0.step)⟩
                      · rw [if_neg c22] at H
                        have c22b0 : (t267 == (wrap64 (t269 + 1))) = false := beq_eq_false_iff_ne.mpr c22
                        have c22b1 : (t267 != (wrap64 (t269 + 1))) = true := bne_iff_ne.mpr c22
                        obtain rfl := Option.some.inj H
                        go_wp2_with (first | ((with_reducible refine gate_callee (f := 27) rfl ?_); refine goesL_ (some 38) rfl rfl Try.func27 (by kernel_rfl) rfl #[.int .i64 a0, .int .i64 a1, .int .i64 a2] rfl (by (try simp only [List.map_toArray, List.map_cons, List.map_nil]); first | done | rfl | (simp only [List.length_drop, List.length_take]; rfl)) ?_; (with_reducible refine (fixed_Scale.calls kj3 a0 a1 a2 t267 true _ A12.out).mono ?_); rintro e w' ⟨rfl, ⟨nd, rfl⟩⟩; refine ⟨_, rfl, ?_⟩) | ((with_reducible refine gate_callee (f := 25) rfl ?_); refine goesL_ (some 45) rfl rfl Try.func25 (by kernel_rfl) rfl #[.int .i64 a0, .int .i64 a1, .int .i64 a2] rfl (by (try simp only [List.map_toArray, List.map_cons, List.map_nil]); first | done | rfl | (simp only [List.length_drop, List.length_take]; rfl)) ?_; (with_reducible refine (fixed_Floor.calls kj3 a0 a1 a2 t269 true _ A13.out).mono ?_); rintro e w' ⟨rfl, ⟨nd, rfl⟩⟩; refine ⟨_, rfl, ?_⟩))
                        go_ret
                        exact ⟨by first | rfl | (simp; done) | (simp [*]; done), by repeat (first | exact Drawn0.refl _ | apply Drawn0.step)⟩
              · replace c17 := Bool.eq_false_iff.mpr c17
                subst c17
                have H1 : ((colophonlaw01_wakes.f).bind fun t273 => (some t273)) = some r := by rw [if_neg (show ¬ (false = true) by decide)] at H; exact H
                clear H
                have H := H1
                clear H1
                replace H := Option.bind_eq_some_iff.mp H
                obtain ⟨t273, A240, H⟩ := H
                replace H : (some t273) = some r := H
                have A24 := Aside0.mk A240
                clear A240
                obtain rfl := Option.some.inj H
                go_wp2_with (first | ((with_reducible refine gate_callee (f := 27) rfl ?_); refine goesL_ (some 38) rfl rfl Try.func27 (by kernel_rfl) rfl #[.int .i64 a0, .int .i64 a1, .int .i64 a2] rfl (by (try simp only [List.map_toArray, List.map_cons, List.map_nil]); first | done | rfl | (simp only [List.length_drop, List.length_take]; rfl)) ?_; (with_reducible refine (fixed_Scale.calls kj3 a0 a1 a2 t267 true _ A12.out).mono ?_); rintro e w' ⟨rfl, ⟨nd, rfl⟩⟩; refine ⟨_, rfl, ?_⟩) | ((with_reducible refine gate_callee (f := 25) rfl ?_); refine goesL_ (some 45) rfl rfl Try.func25 (by kernel_rfl) rfl #[.int .i64 a0, .int .i64 a1, .int .i64 a2] rfl (by (try simp only [List.map_toArray, List.map_cons, List.map_nil]); first | done | rfl | (simp only [List.length_drop, List.length_take]; rfl)) ?_; (with_reducible refine (fixed_Floor.calls kj3 a0 a1 a2 t269 false _ A13.out).mono ?_); rintro e w' ⟨rfl, ⟨nd, rfl⟩⟩; refine ⟨_, rfl, ?_⟩) | (go_at_call 18; (with_reducible refine (colophonlaw01_wakes.calls  t273 _ A24.out).mono ?_); rintro e w' ⟨rfl, ⟨nd, rfl⟩⟩))
                go_ret
                exact ⟨by first | rfl | (simp; done) | (simp [*]; done), by repeat (first | exact Drawn0.refl _ | apply Drawn0.step)⟩
        · replace c14 := Bool.eq_false_iff.mpr c14
          subst c14
          have H1 : (if t270 = true then (if (wrap64 ((wrap64 (a0 * a1)) - (wrap64 (a2 * t269)))) < 0 then (some false) else (if (wrap64 ((wrap64 (a0 * a1)) - (wrap64 (a2 * t269)))) ≥ a2 then (some false) else (if a2 = 0 then (none) else (if (wrap64 (Int.tdiv (wrap64 (a0 * a1)) a2)) > 549755813888 then ((colophonlaw01_wakes.f).bind fun t274 => (some t274)) else (if (wrap64 (Int.tdiv (wrap64 (a0 * a1)) a2)) < (-549755813888) then ((colophonlaw01_wakes.f).bind fun t275 => (some t275)) else (some false)))))) else (if a2 = 0 then (none) else (if (wrap64 (Int.tdiv (wrap64 (a0 * a1)) a2)) > 549755813888 then ((colophonlaw01_wakes.f).bind fun t276 => (some t276)) else (if (wrap64 (Int.tdiv (wrap64 (a0 * a1)) a2)) < (-549755813888) then ((colophonlaw01_wakes.f).bind fun t277 => (some t277)) else (some false))))) = some r := by rw [if_neg (show ¬ (false = true) by decide)] at H; exact H
          clear H
          have H := H1
          clear H1
          by_cases c25 : t270 = true
          · subst c25
            have H1 : (if (wrap64 ((wrap64 (a0 * a1)) - (wrap64 (a2 * t269)))) < 0 then (some false) else (if (wrap64 ((wrap64 (a0 * a1)) - (wrap64 (a2 * t269)))) ≥ a2 then (some false) else (if a2 = 0 then (none) else (if (wrap64 (Int.tdiv (wrap64 (a0 * a1)) a2)) > 549755813888 then ((colophonlaw01_wakes.f).bind fun t274 => (some t274)) else (if (wrap64 (Int.tdiv (wrap64 (a0 * a1)) a2)) < (-549755813888) then ((colophonlaw01_wakes.f).bind fun t275 => (some t275)) else (some false)))))) = some r := by rw [if_pos rfl] at H; exact H
            clear H
            have H := H1
            clear H1
            by_cases c26 : (wrap64 ((wrap64 (a0 * a1)) - (wrap64 (a2 * t269)))) < 0
            · rw [if_pos c26] at H
              have c26b0 : decide ((wrap64 ((wrap64 (a0 * a1)) - (wrap64 (a2 * t269)))) < 0) = true := decide_eq_true c26
              clear c26
              obtain rfl := Option.some.inj H
              go_wp2_with (first | ((with_reducible refine gate_callee (f := 27) rfl ?_); refine goesL_ (some 38) rfl rfl Try.func27 (by kernel_rfl) rfl #[.int .i64 a0, .int .i64 a1, .int .i64 a2] rfl (by (try simp only [List.map_toArray, List.map_cons, List.map_nil]); first | done | rfl | (simp only [List.length_drop, List.length_take]; rfl)) ?_; (with_reducible refine (fixed_Scale.calls kj3 a0 a1 a2 t267 false _ A12.out).mono ?_); rintro e w' ⟨rfl, ⟨nd, rfl⟩⟩; refine ⟨_, rfl, ?_⟩) | ((with_reducible refine gate_callee (f := 25) rfl ?_); refine goesL_ (some 45) rfl rfl Try.func25 (by kernel_rfl) rfl #[.int .i64 a0, .int .i64 a1, .int .i64 a2] rfl (by (try simp only [List.map_toArray, List.map_cons, List.map_nil]); first | done | rfl | (simp only [List.length_drop, List.length_take]; rfl)) ?_; (with_reducible refine (fixed_Floor.calls kj3 a0 a1 a2 t269 true _ A13.out).mono ?_); rintro e w' ⟨rfl, ⟨nd, rfl⟩⟩; refine ⟨_, rfl, ?_⟩))
              go_ret
              exact ⟨by first | rfl | (simp; done) | (simp [*]; done), by repeat (first | exact Drawn0.refl _ | apply Drawn0.step)⟩
            · rw [if_neg c26] at H
              have c26b0 : decide ((wrap64 ((wrap64 (a0 * a1)) - (wrap64 (a2 * t269)))) < 0) = false := decide_eq_false c26
              clear c26
              by_cases c27 : (wrap64 ((wrap64 (a0 * a1)) - (wrap64 (a2 * t269)))) ≥ a2
              · rw [if_pos c27] at H
                have c27b0 : decide (a2 ≤ (wrap64 ((wrap64 (a0 * a1)) - (wrap64 (a2 * t269))))) = true := decide_eq_true c27
                clear c27
                obtain rfl := Option.some.inj H
                go_wp2_with (first | ((with_reducible refine gate_callee (f := 27) rfl ?_); refine goesL_ (some 38) rfl rfl Try.func27 (by kernel_rfl) rfl #[.int .i64 a0, .int .i64 a1, .int .i64 a2] rfl (by (try simp only [List.map_toArray, List.map_cons, List.map_nil]); first | done | rfl | (simp only [List.length_drop, List.length_take]; rfl)) ?_; (with_reducible refine (fixed_Scale.calls kj3 a0 a1 a2 t267 false _ A12.out).mono ?_); rintro e w' ⟨rfl, ⟨nd, rfl⟩⟩; refine ⟨_, rfl, ?_⟩) | ((with_reducible refine gate_callee (f := 25) rfl ?_); refine goesL_ (some 45) rfl rfl Try.func25 (by kernel_rfl) rfl #[.int .i64 a0, .int .i64 a1, .int .i64 a2] rfl (by (try simp only [List.map_toArray, List.map_cons, List.map_nil]); first | done | rfl | (simp only [List.length_drop, List.length_take]; rfl)) ?_; (with_reducible refine (fixed_Floor.calls kj3 a0 a1 a2 t269 true _ A13.out).mono ?_); rintro e w' ⟨rfl, ⟨nd, rfl⟩⟩; refine ⟨_, rfl, ?_⟩))
                go_ret
                exact ⟨by first | rfl | (simp; done) | (simp [*]; done), by repeat (first | exact Drawn0.refl _ | apply Drawn0.step)⟩
              · rw [if_neg c27] at H
                have c27b0 : decide (a2 ≤ (wrap64 ((wrap64 (a0 * a1)) - (wrap64 (a2 * t269))))) = false := decide_eq_false c27
                clear c27
                by_cases c28 : a2 = 0
                · rw [if_pos c28] at H
                  exact absurd H (by simp)
                · rw [if_neg c28] at H
                  have c28b0 : (a2 == 0) = false := beq_eq_false_iff_ne.mpr c28
                  have c28b1 : (a2 != 0) = true := bne_iff_ne.mpr c28
                  by_cases c29 : (wrap64 (Int.tdiv (wrap64 (a0 * a1)) a2)) > 549755813888
                  · rw [if_pos c29] at H
                    have c29b0 : decide (549755813888 < (wrap64 (Int.tdiv (wrap64 (a0 * a1)) a2))) = true := decide_eq_true c29
                    clear c29
                    replace H := Option.bind_eq_some_iff.mp H
                    obtain ⟨t274, A300, H⟩ := H
                    replace H : (some t274) = some r := H
                    have A30 := Aside0.mk A300
                    clear A300
                    obtain rfl := Option.some.inj H
                    go_wp2_with (first | ((with_reducible refine gate_callee (f := 27) rfl ?_); refine goesL_ (some 38) rfl rfl Try.func27 (by kernel_rfl) rfl #[.int .i64 a0, .int .i64 a1, .int .i64 a2] rfl (by (try simp only [List.map_toArray, List.map_cons, List.map_nil]); first | done | rfl | (simp only [List.length_drop, List.length_take]; rfl)) ?_; (with_reducible refine (fixed_Scale.calls kj3 a0 a1 a2 t267 false _ A12.out).mono ?_); rintro e w' ⟨rfl, ⟨nd, rfl⟩⟩; refine ⟨_, rfl, ?_⟩) | ((with_reducible refine gate_callee (f := 25) rfl ?_); refine goesL_ (some 45) rfl rfl Try.func25 (by kernel_rfl) rfl #[.int .i64 a0, .int .i64 a1, .int .i64 a2] rfl (by (try simp only [List.map_toArray, List.map_cons, List.map_nil]); first | done | rfl | (simp only [List.length_drop, List.length_take]; rfl)) ?_; (with_reducible refine (fixed_Floor.calls kj3 a0 a1 a2 t269 true _ A13.out).mono ?_); rintro e w' ⟨rfl, ⟨nd, rfl⟩⟩; refine ⟨_, rfl, ?_⟩) | (go_at_call 18; (with_reducible refine (colophonlaw01_wakes.calls  t274 _ A30.out).mono ?_); rintro e w' ⟨rfl, ⟨nd, rfl⟩⟩))
                    go_ret
                    exact ⟨by first | rfl | (simp; done) | (simp [*]; done), by repeat (first | exact Drawn0.refl _ | apply Drawn0.step)⟩
                  · rw [if_neg c29] at H
                    have c29b0 : decide (549755813888 < (wrap64 (Int.tdiv (wrap64 (a0 * a1)) a2))) = false := decide_eq_false c29
                    clear c29
                    by_cases c31 : (wrap64 (Int.tdiv (wrap64 (a0 * a1)) a2)) < (-549755813888)
                    · rw [if_pos c31] at H
                      have c31b0 : decide ((wrap64 (Int.tdiv (wrap64 (a0 * a1)) a2)) < (-549755813888)) = true := decide_eq_true c31
                      clear c31
                      replace H := Option.bind_eq_some_iff.mp H
                      obtain ⟨t275, A320, H⟩ := H
                      replace H : (some t275) = some r := H
                      have A32 := Aside0.mk A320
                      clear A320
                      obtain rfl := Option.some.inj H
                      go_wp2_with (first | ((with_reducible refine gate_callee (f := 27) rfl ?_); refine goesL_ (some 38) rfl rfl Try.func27 (by kernel_rfl) rfl #[.int .i64 a0, .int .i64 a1, .int .i64 a2] rfl (by (try simp only [List.map_toArray, List.map_cons, List.map_nil]); first | done | rfl | (simp only [List.length_drop, List.length_take]; rfl)) ?_; (with_reducible refine (fixed_Scale.calls kj3 a0 a1 a2 t267 false _ A12.out).mono ?_); rintro e w' ⟨rfl, ⟨nd, rfl⟩⟩; refine ⟨_, rfl, ?_⟩) | ((with_reducible refine gate_callee (f := 25) rfl ?_); refine goesL_ (some 45) rfl rfl Try.func25 (by kernel_rfl) rfl #[.int .i64 a0, .int .i64 a1, .int .i64 a2] rfl (by (try simp only [List.map_toArray, List.map_cons, List.map_nil]); first | done | rfl | (simp only [List.length_drop, List.length_take]; rfl)) ?_; (with_reducible refine (fixed_Floor.calls kj3 a0 a1 a2 t269 true _ A13.out).mono ?_); rintro e w' ⟨rfl, ⟨nd, rfl⟩⟩; refine ⟨_, rfl, ?_⟩) | (go_at_call 18; (with_reducible refine (colophonlaw01_wakes.calls  t275 _ A32.out).mono ?_); rintro e w' ⟨rfl, ⟨nd, rfl⟩⟩))
                      go_ret
                      exact ⟨by first | rfl | (simp; done) | (simp [*]; done), by repeat (first | exact Drawn0.refl _ | apply Drawn0.step)⟩
                    · rw [if_neg c31] at H
                      have c31b0 : decide ((wrap64 (Int.tdiv (wrap64 (a0 * a1)) a2)) < (-549755813888)) = false := decide_eq_false c31
                      clear c31
                      obtain rfl := Option.some.inj H
                      go_wp2_with (first | ((with_reducible refine gate_callee (f := 27) rfl ?_); refine goesL_ (some 38) rfl rfl Try.func27 (by kernel_rfl) rfl #[.int .i64 a0, .int .i64 a1, .int .i64 a2] rfl (by (try simp only [List.map_toArray, List.map_cons, List.map_nil]); first | done | rfl | (simp only [List.length_drop, List.length_take]; rfl)) ?_; (with_reducible refine (fixed_Scale.calls kj3 a0 a1 a2 t267 false _ A12.out).mono ?_); rintro e w' ⟨rfl, ⟨nd, rfl⟩⟩; refine ⟨_, rfl, ?_⟩) | ((with_reducible refine gate_callee (f := 25) rfl ?_); refine goesL_ (some 45) rfl rfl Try.func25 (by kernel_rfl) rfl #[.int .i64 a0, .int .i64 a1, .int .i64 a2] rfl (by (try simp only [List.map_toArray, List.map_cons, List.map_nil]); first | done | rfl | (simp only [List.length_drop, List.length_take]; rfl)) ?_; (with_reducible refine (fixed_Floor.calls kj3 a0 a1 a2 t269 true _ A13.out).mono ?_); rintro e w' ⟨rfl, ⟨nd, rfl⟩⟩; refine ⟨_, rfl, ?_⟩))
                      go_ret
                      exact ⟨by first | rfl | (simp; done) | (simp [*]; done), by repeat (first | exact Drawn0.refl _ | apply Drawn0.step)⟩
          · replace c25 := Bool.eq_false_iff.mpr c25
            subst c25
            have H1 : (if a2 = 0 then (none) else (if (wrap64 (Int.tdiv (wrap64 (a0 * a1)) a2)) > 549755813888 then ((colophonlaw01_wakes.f).bind fun t276 => (some t276)) else (if (wrap64 (Int.tdiv (wrap64 (a0 * a1)) a2)) < (-549755813888) then ((colophonlaw01_wakes.f).bind fun t277 => (some t277)) else (some false)))) = some r := by rw [if_neg (show ¬ (false = true) by decide)] at H; exact H
            clear H
            have H := H1
            clear H1
            by_cases c33 : a2 = 0
            · rw [if_pos c33] at H
              exact absurd H (by simp)
            · rw [if_neg c33] at H
              have c33b0 : (a2 == 0) = false := beq_eq_false_iff_ne.mpr c33
              have c33b1 : (a2 != 0) = true := bne_iff_ne.mpr c33
              by_cases c34 : (wrap64 (Int.tdiv (wrap64 (a0 * a1)) a2)) > 549755813888
              · rw [if_pos c34] at H
                have c34b0 : decide (549755813888 < (wrap64 (Int.tdiv (wrap64 (a0 * a1)) a2))) = true := decide_eq_true c34
                clear c34
                replace H := Option.bind_eq_some_iff.mp H
                obtain ⟨t276, A350, H⟩ := H
                replace H : (some t276) = some r := H
                have A35 := Aside0.mk A350
                clear A350
                obtain rfl := Option.some.inj H
                go_wp2_with (first | ((with_reducible refine gate_callee (f := 27) rfl ?_); refine goesL_ (some 38) rfl rfl Try.func27 (by kernel_rfl) rfl #[.int .i64 a0, .int .i64 a1, .int .i64 a2] rfl (by (try simp only [List.map_toArray, List.map_cons, List.map_nil]); first | done | rfl | (simp only [List.length_drop, List.length_take]; rfl)) ?_; (with_reducible refine (fixed_Scale.calls kj3 a0 a1 a2 t267 false _ A12.out).mono ?_); rintro e w' ⟨rfl, ⟨nd, rfl⟩⟩; refine ⟨_, rfl, ?_⟩) | ((with_reducible refine gate_callee (f := 25) rfl ?_); refine goesL_ (some 45) rfl rfl Try.func25 (by kernel_rfl) rfl #[.int .i64 a0, .int .i64 a1, .int .i64 a2] rfl (by (try simp only [List.map_toArray, List.map_cons, List.map_nil]); first | done | rfl | (simp only [List.length_drop, List.length_take]; rfl)) ?_; (with_reducible refine (fixed_Floor.calls kj3 a0 a1 a2 t269 false _ A13.out).mono ?_); rintro e w' ⟨rfl, ⟨nd, rfl⟩⟩; refine ⟨_, rfl, ?_⟩) | (go_at_call 18; (with_reducible refine (colophonlaw01_wakes.calls  t276 _ A35.out).mono ?_); rintro e w' ⟨rfl, ⟨nd, rfl⟩⟩))
                go_ret
                exact ⟨by first | rfl | (simp; done) | (simp [*]; done), by repeat (first | exact Drawn0.refl _ | apply Drawn0.step)⟩
              · rw [if_neg c34] at H
                have c34b0 : decide (549755813888 < (wrap64 (Int.tdiv (wrap64 (a0 * a1)) a2))) = false := decide_eq_false c34
                clear c34
                by_cases c36 : (wrap64 (Int.tdiv (wrap64 (a0 * a1)) a2)) < (-549755813888)
                · rw [if_pos c36] at H
                  have c36b0 : decide ((wrap64 (Int.tdiv (wrap64 (a0 * a1)) a2)) < (-549755813888)) = true := decide_eq_true c36
                  clear c36
                  replace H := Option.bind_eq_some_iff.mp H
                  obtain ⟨t277, A370, H⟩ := H
                  replace H : (some t277) = some r := H
                  have A37 := Aside0.mk A370
                  clear A370
                  obtain rfl := Option.some.inj H
                  go_wp2_with (first | ((with_reducible refine gate_callee (f := 27) rfl ?_); refine goesL_ (some 38) rfl rfl Try.func27 (by kernel_rfl) rfl #[.int .i64 a0, .int .i64 a1, .int .i64 a2] rfl (by (try simp only [List.map_toArray, List.map_cons, List.map_nil]); first | done | rfl | (simp only [List.length_drop, List.length_take]; rfl)) ?_; (with_reducible refine (fixed_Scale.calls kj3 a0 a1 a2 t267 false _ A12.out).mono ?_); rintro e w' ⟨rfl, ⟨nd, rfl⟩⟩; refine ⟨_, rfl, ?_⟩) | ((with_reducible refine gate_callee (f := 25) rfl ?_); refine goesL_ (some 45) rfl rfl Try.func25 (by kernel_rfl) rfl #[.int .i64 a0, .int .i64 a1, .int .i64 a2] rfl (by (try simp only [List.map_toArray, List.map_cons, List.map_nil]); first | done | rfl | (simp only [List.length_drop, List.length_take]; rfl)) ?_; (with_reducible refine (fixed_Floor.calls kj3 a0 a1 a2 t269 false _ A13.out).mono ?_); rintro e w' ⟨rfl, ⟨nd, rfl⟩⟩; refine ⟨_, rfl, ?_⟩) | (go_at_call 18; (with_reducible refine (colophonlaw01_wakes.calls  t277 _ A37.out).mono ?_); rintro e w' ⟨rfl, ⟨nd, rfl⟩⟩))
                  go_ret
                  exact ⟨by first | rfl | (simp; done) | (simp [*]; done), by repeat (first | exact Drawn0.refl _ | apply Drawn0.step)⟩
                · rw [if_neg c36] at H
                  have c36b0 : decide ((wrap64 (Int.tdiv (wrap64 (a0 * a1)) a2)) < (-549755813888)) = false := decide_eq_false c36
                  clear c36
                  obtain rfl := Option.some.inj H
                  go_wp2_with (first | ((with_reducible refine gate_callee (f := 27) rfl ?_); refine goesL_ (some 38) rfl rfl Try.func27 (by kernel_rfl) rfl #[.int .i64 a0, .int .i64 a1, .int .i64 a2] rfl (by (try simp only [List.map_toArray, List.map_cons, List.map_nil]); first | done | rfl | (simp only [List.length_drop, List.length_take]; rfl)) ?_; (with_reducible refine (fixed_Scale.calls kj3 a0 a1 a2 t267 false _ A12.out).mono ?_); rintro e w' ⟨rfl, ⟨nd, rfl⟩⟩; refine ⟨_, rfl, ?_⟩) | ((with_reducible refine gate_callee (f := 25) rfl ?_); refine goesL_ (some 45) rfl rfl Try.func25 (by kernel_rfl) rfl #[.int .i64 a0, .int .i64 a1, .int .i64 a2] rfl (by (try simp only [List.map_toArray, List.map_cons, List.map_nil]); first | done | rfl | (simp only [List.length_drop, List.length_take]; rfl)) ?_; (with_reducible refine (fixed_Floor.calls kj3 a0 a1 a2 t269 false _ A13.out).mono ?_); rintro e w' ⟨rfl, ⟨nd, rfl⟩⟩; refine ⟨_, rfl, ?_⟩))
                  go_ret
                  exact ⟨by first | rfl | (simp; done) | (simp [*]; done), by repeat (first | exact Drawn0.refl _ | apply Drawn0.step)⟩

/-- THE ONE PURE STATEMENT of colophonlaw01_FixedNearest: yours. -/
def colophonlaw01_FixedNearest.Pure : Prop := ∀ (a0 : Int) (a1 : Int) (a2 : Int), (Lit.int .i64 a0).wf = true → (Lit.int .i64 a1).wf = true → (Lit.int .i64 a2).wf = true → ∃ k, colophonlaw01_FixedNearest.f k a0 a1 a2 = some true
theorem colophonlaw01_FixedNearest.walk (P : colophonlaw01_FixedNearest.Pure) (a0 : Int) (a1 : Int) (a2 : Int) (w : World) (w0 : (Lit.int .i64 a0).wf = true) (w1 : (Lit.int .i64 a1).wf = true) (w2 : (Lit.int .i64 a2).wf = true) :
    Calls Try.prog 9 #[.int .i64 a0, .int .i64 a1, .int .i64 a2] w fun e w' => e = .returned (.bool true) ∧ Below w.heap.size w w' := by
  obtain ⟨k, h⟩ := P a0 a1 a2 w0 w1 w2
  refine (colophonlaw01_FixedNearest.calls k a0 a1 a2 true w h).mono ?_
  rintro e w' ⟨rfl, hd⟩
  exact ⟨rfl, hd.below⟩

/-! ### fixed_Share: function 29 -/
mutual
def fixed_Share.j0 : Nat → Int → List Int → Int → Bool → Option (List Int × Bool)
  | 0, _, _, _, _ => none
  | k + 1, x0, x1, x6, x32 => if x32 = true then (some (([] : List Int), false)) else (fixed_Share.l0 k x0 x1 x6 x1 (x1.length : Int) 0)
def fixed_Share.l0 : Nat → Int → List Int → Int → List Int → Int → Int → Option (List Int × Bool)
  | 0, _, _, _, _, _, _ => none
  | k + 1, x0, x1, x6, x33, x34, x35 => if x35 < x34 then (if 0 ≤ x35 then (if x35 < (x33.length : Int) then (if (rd x33 x35) < 0 then (some (([] : List Int), false)) else (fixed_Share.l0 k x0 x1 x6 x33 x34 (wrap64 (x35 + 1)))) else (none)) else (none)) else (fixed_Share.l1 k x0 x6 ([] : List Int) 0 0 x1 (x1.length : Int) 0)
def fixed_Share.l1 : Nat → Int → Int → List Int → Int → Int → List Int → Int → Int → Option (List Int × Bool)
  | 0, _, _, _, _, _, _, _, _ => none
  | k + 1, x0, x6, x10, x11, x12, x42, x43, x44 => if x44 < x43 then (if 0 ≤ x44 then (if x44 < (x42.length : Int) then ((fixed_Floor.f k x0 (wrap64 (x11 + (rd x42 x44))) x6).bind fun bt283 => (if x10.length < 17592186044416 then (fixed_Share.l1 k x0 x6 (x10 ++ [wrap64 (bt283.1 - x12)]) (wrap64 (x11 + (rd x42 x44))) bt283.1 x42 x43 (wrap64 (x44 + 1))) else (none))) else (none)) else (none)) else (some (x10, true))
end
def fixed_Share.f (k : Nat) (a0 : Int) (l1 : List Int) : Option (List Int × Bool) := (fixed_Sum.f k l1).bind fun bt278 => (if bt278.2 = true then (if bt278.1 = 0 then (fixed_Share.j0 k a0 l1 bt278.1 true) else ((fixed_In.f a0).bind fun t280 => (fixed_Share.j0 k a0 l1 bt278.1 (!t280)))) else (fixed_Share.j0 k a0 l1 bt278.1 true))
theorem fixed_Share.mono_l : ∀ k, (∀ y0 y1 y2 y3, LeO (fixed_Share.j0 k y0 y1 y2 y3) (fixed_Share.j0 (k + 1) y0 y1 y2 y3)) ∧ (∀ y0 y1 y2 y3 y4 y5, LeO (fixed_Share.l0 k y0 y1 y2 y3 y4 y5) (fixed_Share.l0 (k + 1) y0 y1 y2 y3 y4 y5)) ∧ (∀ y0 y1 y2 y3 y4 y5 y6 y7, LeO (fixed_Share.l1 k y0 y1 y2 y3 y4 y5 y6 y7) (fixed_Share.l1 (k + 1) y0 y1 y2 y3 y4 y5 y6 y7))
  | 0 => ⟨fun _ _ _ _ r h => by simp [fixed_Share.j0] at h, fun _ _ _ _ _ _ r h => by simp [fixed_Share.l0] at h, fun _ _ _ _ _ _ _ _ r h => by simp [fixed_Share.l1] at h⟩
  | k + 1 => by
    obtain ⟨ih0, ih1, ih2⟩ := fixed_Share.mono_l k
    refine ⟨?_, ?_, ?_⟩
    · intro y0 y1 y2 y3
      unfold fixed_Share.j0
      repeat' first
      | (with_reducible exact ih0 _ _ _ _)
      | (with_reducible exact ih1 _ _ _ _ _ _)
      | (with_reducible exact ih2 _ _ _ _ _ _ _ _)
      | (with_reducible exact fixed_Floor.mono _ _ _ _)
      | (with_reducible exact fixed_Sum.mono _ _)
      | (with_reducible exact LeO.refl _)
      | (with_reducible exact LeO.none _)
      | (with_reducible refine LeO.ite ?_ ?_)
      | (with_reducible refine LeO.bind ?_ (fun _ => ?_))
      | exact ih0 _ _ _ _
      | exact ih1 _ _ _ _ _ _
      | exact ih2 _ _ _ _ _ _ _ _
      | exact fixed_Floor.mono _ _ _ _
      | exact fixed_Sum.mono _ _
      | exact LeO.none _
      | refine LeO.ite ?_ ?_
      | refine LeO.bind ?_ (fun _ => ?_)
    · intro y0 y1 y2 y3 y4 y5
      unfold fixed_Share.l0
      repeat' first
      | (with_reducible exact ih0 _ _ _ _)
      | (with_reducible exact ih1 _ _ _ _ _ _)
      | (with_reducible exact ih2 _ _ _ _ _ _ _ _)
      | (with_reducible exact fixed_Floor.mono _ _ _ _)
      | (with_reducible exact fixed_Sum.mono _ _)
      | (with_reducible exact LeO.refl _)
      | (with_reducible exact LeO.none _)
      | (with_reducible refine LeO.ite ?_ ?_)
      | (with_reducible refine LeO.bind ?_ (fun _ => ?_))
      | exact ih0 _ _ _ _
      | exact ih1 _ _ _ _ _ _
      | exact ih2 _ _ _ _ _ _ _ _
      | exact fixed_Floor.mono _ _ _ _
      | exact fixed_Sum.mono _ _
      | exact LeO.none _
      | refine LeO.ite ?_ ?_
      | refine LeO.bind ?_ (fun _ => ?_)
    · intro y0 y1 y2 y3 y4 y5 y6 y7
      unfold fixed_Share.l1
      repeat' first
      | (with_reducible exact ih0 _ _ _ _)
      | (with_reducible exact ih1 _ _ _ _ _ _)
      | (with_reducible exact ih2 _ _ _ _ _ _ _ _)
      | (with_reducible exact fixed_Floor.mono _ _ _ _)
      | (with_reducible exact fixed_Sum.mono _ _)
      | (with_reducible exact LeO.refl _)
      | (with_reducible exact LeO.none _)
      | (with_reducible refine LeO.ite ?_ ?_)
      | (with_reducible refine LeO.bind ?_ (fun _ => ?_))
      | exact ih0 _ _ _ _
      | exact ih1 _ _ _ _ _ _
      | exact ih2 _ _ _ _ _ _ _ _
      | exact fixed_Floor.mono _ _ _ _
      | exact fixed_Sum.mono _ _
      | exact LeO.none _
      | refine LeO.ite ?_ ?_
      | refine LeO.bind ?_ (fun _ => ?_)
theorem fixed_Share.mono : ∀ a0 a1 k, LeO (fixed_Share.f k a0 a1) (fixed_Share.f (k + 1) a0 a1) := by
  intro a0 a1 k
  obtain ⟨ih0, ih1, ih2⟩ := fixed_Share.mono_l k
  unfold fixed_Share.f
  repeat' first
      | (with_reducible exact ih0 _ _ _ _)
      | (with_reducible exact ih1 _ _ _ _ _ _)
      | (with_reducible exact ih2 _ _ _ _ _ _ _ _)
      | (with_reducible exact fixed_Floor.mono _ _ _ _)
      | (with_reducible exact fixed_Sum.mono _ _)
      | (with_reducible exact LeO.refl _)
      | (with_reducible exact LeO.none _)
      | (with_reducible refine LeO.ite ?_ ?_)
      | (with_reducible refine LeO.bind ?_ (fun _ => ?_))
      | exact ih0 _ _ _ _
      | exact ih1 _ _ _ _ _ _
      | exact ih2 _ _ _ _ _ _ _ _
      | exact fixed_Floor.mono _ _ _ _
      | exact fixed_Sum.mono _ _
      | exact LeO.none _
      | refine LeO.ite ?_ ?_
      | refine LeO.bind ?_ (fun _ => ?_)
set_option maxHeartbeats 8000000 in
set_option maxRecDepth 100000 in
theorem fixed_Share.calls (k : Nat) (a0 : Int) (A1 : Option Addr) (c1 : Nat) (l1 : List Int) (r1 : List Int) (r2 : Bool) (w : World) (hr1 : Kd.C (Kd.int .i64) w A1 l1.length l1) (hc1 : l1.length ≤ c1) (h : fixed_Share.f k a0 l1 = some (r1, r2)) :
    Calls Try.prog 29 #[.int .i64 a0, .slice A1 l1.length c1] w fun e w' => ∃ v0_ : Value, e = .returned (.tuple #[v0_, .bool r2]) ∧ Kd.R (Kd.int .i64) 3 w' w.heap.size (fun _ => True) v0_ r1 ∧ Below w.heap.size w w' := by
  have HR1 := Aside0.mk hr1
  have HC1 := Aside0.mk hc1
  clear hr1 hc1
  have HB := Aside0.mk (Below.refl w.heap.size w)
  have H : ((fixed_Sum.f k l1).bind fun bt278 => (if bt278.2 = true then (if bt278.1 = 0 then (fixed_Share.j0 k a0 l1 bt278.1 true) else ((fixed_In.f a0).bind fun t280 => (fixed_Share.j0 k a0 l1 bt278.1 (!t280)))) else (fixed_Share.j0 k a0 l1 bt278.1 true))) = some (r1, r2) := h
  clear h
  replace H := Option.bind_eq_some_iff.mp H
  obtain ⟨⟨t278, t279⟩, A30, H⟩ := H
  replace H : (if t279 = true then (if t278 = 0 then (fixed_Share.j0 k a0 l1 t278 true) else ((fixed_In.f a0).bind fun t280 => (fixed_Share.j0 k a0 l1 t278 (!t280)))) else (fixed_Share.j0 k a0 l1 t278 true)) = some (r1, r2) := H
  have A3 := Aside0.mk A30
  clear A30
  have HC4 := Aside0.mk H
  clear H
  go_enter Try.func29, Try.ntmps29
  go_upto_region 2 with (first | ((with_reducible refine gate_callee (f := 20) rfl ?_); refine goesL_ (some 19) rfl rfl Try.func20 (by kernel_rfl) rfl #[.slice A1 l1.length c1] rfl (by (try simp only [List.map_toArray, List.map_cons, List.map_nil]); first | done | rfl | (simp only [List.length_drop, List.length_take]; rfl)) ?_; (with_reducible refine (fixed_Sum.calls k _ _ l1 t278 t279 _ ?side1 ?side2 A3.out).mono ?_); (case side1 => repeat (first | exact HR1.out | (with_reducible refine Kd.C_alloc ?_ _) | (with_reducible refine Kd.C_drewN ?_ _) | (with_reducible refine Kd.C_drew ?_))); (case side2 => exact HC1.out); rintro e w' ⟨rfl, ⟨nd, rfl⟩⟩; refine ⟨_, rfl, ?_⟩))
  (try simp only [Act.put, List.setIfInBounds_toArray, List.set_cons_zero, List.set_cons_succ])
  go_cut [32] (fun v32 wc => ∃ (kq : Nat) (x32_3 : Bool), v32 = .bool x32_3 ∧ Aside0 (fixed_Share.j0 kq a0 l1 t278 x32_3 = some (r1, r2)) ∧ Aside0 (kq ≤ k) ∧ Aside0 (Below w.heap.size w wc))
  case first =>
    have H := HC4.out
    clear HC4
    by_cases c5 : t279 = true
    · subst c5
      have H1 : (if t278 = 0 then (fixed_Share.j0 k a0 l1 t278 true) else ((fixed_In.f a0).bind fun t280 => (fixed_Share.j0 k a0 l1 t278 (!t280)))) = some (r1, r2) := by rw [if_pos rfl] at H; exact H
      clear H
      have H := H1
      clear H1
      by_cases c6 : t278 = 0
      · rw [if_pos c6] at H
        have c6b0 : (t278 == 0) = true := beq_iff_eq.mpr c6
        have c6b1 : (t278 != 0) = false := bne_eq_false_iff_eq.mpr c6
        clear c6
        (first | rw [c6b0] | (simp only [i64_w, i32_w]; rw [c6b0]) | skip)
        have H' := Aside0.mk H
        clear H
        go_wp2
        go_meet
        case rel => exact ⟨_, (true), (by first | rfl | (simp; done) | (simp [*]; done)), H', ⟨by first | omega | exact Nat.le_refl _⟩, ⟨by repeat (first | (with_reducible first | exact HB.out | apply below_alloc | apply pw_below_drewN | apply below_drew1) | exact HB.out)⟩⟩
      · rw [if_neg c6] at H
        have c6b0 : (t278 == 0) = false := beq_eq_false_iff_ne.mpr c6
        have c6b1 : (t278 != 0) = true := bne_iff_ne.mpr c6
        (first | rw [c6b0] | (simp only [i64_w, i32_w]; rw [c6b0]) | skip)
        replace H := Option.bind_eq_some_iff.mp H
        obtain ⟨t280, A70, H⟩ := H
        replace H : (fixed_Share.j0 k a0 l1 t278 (!t280)) = some (r1, r2) := H
        have A7 := Aside0.mk A70
        clear A70
        have H' := Aside0.mk H
        clear H
        go_wp2_with (first | (go_at_call 16; (with_reducible refine (fixed_In.calls a0 t280 _ A7.out).mono ?_); rintro e w' ⟨rfl, ⟨nd, rfl⟩⟩))
        go_meet
        case rel => exact ⟨_, (!t280), (by first | rfl | (simp; done) | (simp [*]; done)), H', ⟨by first | omega | exact Nat.le_refl _⟩, ⟨by repeat (first | (with_reducible first | exact HB.out | apply below_alloc | apply pw_below_drewN | apply below_drew1) | exact HB.out)⟩⟩
    · replace c5 := Bool.eq_false_iff.mpr c5
      subst c5
      have H1 : (fixed_Share.j0 k a0 l1 t278 true) = some (r1, r2) := by rw [if_neg (show ¬ (false = true) by decide)] at H; exact H
      clear H
      have H := H1
      clear H1
      have H' := Aside0.mk H
      clear H
      go_wp2
      go_meet
      case rel => exact ⟨_, (true), (by first | rfl | (simp; done) | (simp [*]; done)), H', ⟨by first | omega | exact Nat.le_refl _⟩, ⟨by repeat (first | (with_reducible first | exact HB.out | apply below_alloc | apply pw_below_drewN | apply below_drew1) | exact HB.out)⟩⟩
  case rest =>
    clear HC4
    try clear c1
    try clear c2
    try clear p2
    try clear c5
    try clear c6
    try clear c6b0
    try clear c6b1
    obtain ⟨kq, x32_3, rfl, HA, HJ3, HB⟩ := hcut
    cases kq with
    | zero => exact absurd HA.out (by simp [fixed_Share.j0])
    | succ kj3 =>
      have H := HA.out
      clear HA
      simp only [fixed_Share.j0] at H
      by_cases c8 : x32_3 = true
      · subst c8
        have H1 : (some (([] : List Int), false)) = some (r1, r2) := by rw [if_pos rfl] at H; exact H
        clear H
        have H := H1
        clear H1
        simp only [Option.some.injEq, Prod.mk.injEq] at H
        obtain ⟨rfl, rfl⟩ := H
        go_wp2
        go_ret2
        exact ⟨_, by first | rfl | (simp [errW_none, errW_some] <;> rfl) | (simp [*, errW_none, errW_some] <;> rfl), by first | exact Kd.R_nil _ _ _ _ _ | exact Kd.N_nil _ _ _ _ _ | exact Kd.V_nil _ _ _ _ _ | exact Kd.Q_nil _ _ _ _ _ | exact Kd.S_nil _ _ _ _ _, by repeat (first | (with_reducible first | exact HB.out | apply below_alloc | apply pw_below_drewN | apply below_drew1) | exact HB.out)⟩
      · replace c8 := Bool.eq_false_iff.mpr c8
        subst c8
        have H1 : (fixed_Share.l0 kj3 a0 l1 t278 l1 (l1.length : Int) 0) = some (r1, r2) := by rw [if_neg (show ¬ (false = true) by decide)] at H; exact H
        clear H
        have H := H1
        clear H1
        have H' := Aside0.mk H
        clear H
        go_wp2
        go_loopg [35] kj3 (fun kq v35 w' => ∃ (x35_2 : Int), v35 = .int .i64 x35_2 ∧ Aside0 (fixed_Share.l0 kq a0 l1 t278 l1 (l1.length : Int) x35_2 = some (r1, r2)) ∧ Aside0 (kq ≤ kj3) ∧ Aside0 (Below w.heap.size w w'))
        case atStart => exact ⟨(0), (by first | rfl | (simp; done) | (simp [*]; done)), H', ⟨Nat.le_refl _⟩, ⟨by repeat (first | (with_reducible first | exact HB.out | apply below_alloc | apply pw_below_drewN | apply below_drew1) | exact HB.out)⟩⟩
        case round =>
          clear H'
          try clear c1
          try clear c2
          try clear p2
          try clear c5
          try clear c6
          try clear c6b0
          try clear c6b1
          try clear c8
          try clear p2
          obtain ⟨x35_2, rfl, HA, HK2, HB⟩ := hrel
          cases gk with
          | zero => exact absurd HA.out (by simp [fixed_Share.l0])
          | succ k2 =>
            have H := HA.out
            clear HA
            simp only [fixed_Share.l0] at H
            by_cases c9 : x35_2 < (l1.length : Int)
            · rw [if_pos c9] at H
              have c9b0 : decide (x35_2 < (l1.length : Int)) = true := decide_eq_true c9
              clear c9
              by_cases c10 : 0 ≤ x35_2
              · rw [if_pos c10] at H
                have c10b0 : decide (0 ≤ x35_2) = true := decide_eq_true c10
                clear c10
                by_cases c11 : x35_2 < (l1.length : Int)
                · rw [if_pos c11] at H
                  have c11b0 : decide (x35_2 < (l1.length : Int)) = true := decide_eq_true c11
                  clear c11
                  by_cases c12 : (rd l1 x35_2) < 0
                  · rw [if_pos c12] at H
                    have c12b0 : decide ((rd l1 x35_2) < 0) = true := decide_eq_true c12
                    clear c12
                    simp only [Option.some.injEq, Prod.mk.injEq] at H
                    obtain ⟨rfl, rfl⟩ := H
                    have p281 : 0 ≤ (x35_2 : Int) := of_decide_eq_true (by first | (with_reducible assumption) | assumption)
                    have q281 : x35_2 < (l1.length : Int) := of_decide_eq_true (by first | (with_reducible assumption) | assumption)
                    obtain ⟨ad281, e281, hx281_0⟩ := Kd.at_int HR1.out x35_2 p281 q281
                    cases e281
                    replace hx281_0 := (HB.out.cell (World.block_lt_of_cell? w _ hx281_0)).trans hx281_0
                    replace p281 := eq_true p281
                    replace q281 := eq_true q281
                    go_wp2
                    go_ret2
                    exact ⟨_, by first | rfl | (simp [errW_none, errW_some] <;> rfl) | (simp [*, errW_none, errW_some] <;> rfl), by first | exact Kd.R_nil _ _ _ _ _ | exact Kd.N_nil _ _ _ _ _ | exact Kd.V_nil _ _ _ _ _ | exact Kd.Q_nil _ _ _ _ _ | exact Kd.S_nil _ _ _ _ _, by repeat (first | (with_reducible first | exact HB.out | apply below_alloc | apply pw_below_drewN | apply below_drew1) | exact HB.out)⟩
                  · rw [if_neg c12] at H
                    have c12b0 : decide ((rd l1 x35_2) < 0) = false := decide_eq_false c12
                    clear c12
                    have H' := Aside0.mk H
                    clear H
                    have p281 : 0 ≤ (x35_2 : Int) := of_decide_eq_true (by first | (with_reducible assumption) | assumption)
                    have q281 : x35_2 < (l1.length : Int) := of_decide_eq_true (by first | (with_reducible assumption) | assumption)
                    obtain ⟨ad281, e281, hx281_0⟩ := Kd.at_int HR1.out x35_2 p281 q281
                    cases e281
                    replace hx281_0 := (HB.out.cell (World.block_lt_of_cell? w _ hx281_0)).trans hx281_0
                    replace p281 := eq_true p281
                    replace q281 := eq_true q281
                    go_wp2
                    go_roundg k2
                    case measure => have := HJ3.out; have := HK2.out; omega
                    case rel => exact ⟨(wrap64 (x35_2 + 1)), (by first | rfl | (simp; done) | (simp [*]; done)), H', ⟨by have := HJ3.out; have := HK2.out; omega⟩, ⟨by repeat (first | (with_reducible first | exact HB.out | apply below_alloc | apply pw_below_drewN | apply below_drew1) | exact HB.out)⟩⟩
                · rw [if_neg c11] at H
                  exact absurd H (by simp)
              · rw [if_neg c10] at H
                exact absurd H (by simp)
            · rw [if_neg c9] at H
              have c9b0 : decide (x35_2 < (l1.length : Int)) = false := decide_eq_false c9
              clear c9
              have H' := Aside0.mk H
              clear H
              go_wp2
              go_loopg [10, 11, 12, 44] k2 (fun kq v10 v11 v12 v44 w' => ∃ (x10_3 : List Int) (x11_3 : Int) (x12_3 : Int) (x44_3 : Int), v11 = .int .i64 x11_3 ∧ v12 = .int .i64 x12_3 ∧ v44 = .int .i64 x44_3 ∧ Aside0 (fixed_Share.l1 kq a0 t278 x10_3 x11_3 x12_3 l1 (l1.length : Int) x44_3 = some (r1, r2)) ∧ Aside0 (kq ≤ k2) ∧ Aside0 (Kd.R (Kd.int .i64) 3 w' w.heap.size (fun _ => True) v10 x10_3) ∧ Aside0 (Below w.heap.size w w'))
              case atStart => exact ⟨(([] : List Int)), (0), (0), (0), (by first | rfl | (simp; done) | (simp [*]; done)), (by first | rfl | (simp; done) | (simp [*]; done)), (by first | rfl | (simp; done) | (simp [*]; done)), H', ⟨Nat.le_refl _⟩, ⟨by first | exact Kd.R_nil _ _ _ _ _ | exact Kd.N_nil _ _ _ _ _ | exact Kd.V_nil _ _ _ _ _ | exact Kd.Q_nil _ _ _ _ _ | exact Kd.S_nil _ _ _ _ _⟩, ⟨by repeat (first | (with_reducible first | exact HB.out | apply below_alloc | apply pw_below_drewN | apply below_drew1) | exact HB.out)⟩⟩
              case round =>
                clear H'
                try clear c1
                try clear c2
                try clear p2
                try clear q2
                try clear hx2
                try clear c5
                try clear c6
                try clear c6b0
                try clear c6b1
                try clear p6
                try clear c8
                try clear c9
                try clear c9b0
                try clear c10
                try clear c10b0
                try clear c11
                try clear c11b0
                try clear c12
                try clear c12b0
                try clear hx281_0
                try clear p2
                try clear p281
                try clear q281
                obtain ⟨x10_3, x11_3, x12_3, x44_3, rfl, rfl, rfl, HA, HK3, HO_10, HB⟩ := hrel
                cases gk with
                | zero => exact absurd HA.out (by simp [fixed_Share.l1])
                | succ k3 =>
                  have H := HA.out
                  clear HA
                  simp only [fixed_Share.l1] at H
                  by_cases c13 : x44_3 < (l1.length : Int)
                  · rw [if_pos c13] at H
                    have c13b0 : decide (x44_3 < (l1.length : Int)) = true := decide_eq_true c13
                    clear c13
                    by_cases c14 : 0 ≤ x44_3
                    · rw [if_pos c14] at H
                      have c14b0 : decide (0 ≤ x44_3) = true := decide_eq_true c14
                      clear c14
                      by_cases c15 : x44_3 < (l1.length : Int)
                      · rw [if_pos c15] at H
                        have c15b0 : decide (x44_3 < (l1.length : Int)) = true := decide_eq_true c15
                        clear c15
                        replace H := Option.bind_eq_some_iff.mp H
                        obtain ⟨⟨t283, t284⟩, A160, H⟩ := H
                        replace H : (if x10_3.length < 17592186044416 then (fixed_Share.l1 k3 a0 t278 (x10_3 ++ [wrap64 (t283 - x12_3)]) (wrap64 (x11_3 + (rd l1 x44_3))) t283 l1 (l1.length : Int) (wrap64 (x44_3 + 1))) else (none)) = some (r1, r2) := H
                        have A16 := Aside0.mk A160
                        clear A160
                        by_cases c17 : x10_3.length < 17592186044416
                        · rw [if_pos c17] at H
                          have LMc17 := Aside0.mk c17
                          clear c17
                          obtain ⟨y285, hy285⟩ : ∃ y_ : List Int, y_ = (x10_3 ++ [wrap64 (t283 - x12_3)]) := ⟨_, rfl⟩
                          replace H : (fixed_Share.l1 k3 a0 t278 y285 (wrap64 (x11_3 + (rd l1 x44_3))) t283 l1 (l1.length : Int) (wrap64 (x44_3 + 1))) = some (r1, r2) := by first | (rw [hy285]; with_reducible exact H) | (have H2_ := (Option.bind_some _ _).symm.trans H; rw [hy285]; with_reducible exact H2_) | (have H2_ := (Option.bind_some _ _).symm.trans H; with_reducible exact H2_) | with_reducible exact H | (rw [hy285]; exact H) | exact H
                          have Ny285 := Aside0.mk hy285
                          clear hy285
                          have H' := Aside0.mk H
                          clear H
                          have p282 : 0 ≤ (x44_3 : Int) := of_decide_eq_true (by first | (with_reducible assumption) | assumption)
                          have q282 : x44_3 < (l1.length : Int) := of_decide_eq_true (by first | (with_reducible assumption) | assumption)
                          obtain ⟨ad282, e282, hx282_0⟩ := Kd.at_int HR1.out x44_3 p282 q282
                          cases e282
                          replace hx282_0 := (HB.out.cell (World.block_lt_of_cell? w _ hx282_0)).trans hx282_0
                          replace p282 := eq_true p282
                          replace q282 := eq_true q282
                          go_wp2_with (first | ((with_reducible refine gate_callee (f := 25) rfl ?_); refine goesL_ (some 55) rfl rfl Try.func25 (by kernel_rfl) rfl #[.int .i64 a0, .int .i64 (wrap64 (x11_3 + (rd l1 x44_3))), .int .i64 t278] rfl (by (try simp only [List.map_toArray, List.map_cons, List.map_nil]); first | done | rfl | (simp only [List.length_drop, List.length_take]; rfl)) ?_; (with_reducible refine (fixed_Floor.calls k3 a0 (wrap64 (x11_3 + (rd l1 x44_3))) t278 t283 t284 _ A16.out).mono ?_); rintro e w' ⟨rfl, ⟨nd, rfl⟩⟩; refine ⟨_, rfl, ?_⟩) | ((with_reducible refine gate_builtin (b := .append) (xs := #[.tmp 58, .tmp 62]) rfl ?_); at_builtin; refine Kd.R_append (Kd.int .i64) (w0 := w) w.heap.size rfl (.tmp 58) (.tmp 62) 27 3 (.int .i64 0) 8 rfl Try.underlying27 info3 rfl (by decide) (by omega) u10 x10_3 (wrap64 (t283 - x12_3)) [.int .i64 (wrap64 (t283 - x12_3))] (fun _ => True) (fun _ => False) rfl rfl ?aP (fun _ hk => hk.elim) ?aF ?aO ?aB ?aS ?aL ?_; (case aP => exact rfl); (case aB => exact (by repeat (first | (with_reducible first | exact HB.out | apply below_alloc | apply pw_below_drewN | apply below_drew1) | exact HB.out))); (case aF => exact (fun _ _ => trivial)); (case aO => exact (by (with_reducible repeat (first | apply Kd.R_alloc | apply Kd.R_drewN | apply Kd.R_drew)); exact HO_10.out)); (case aS => exact (below_size (by repeat (first | (with_reducible first | exact HB.out | apply below_alloc | apply pw_below_drewN | apply below_drew1) | exact HB.out)))); (case aL => have := LMc17.out; omega); intro v286 w18 ho hb hg hat; rw [← Ny285.out] at ho; have n0_ := Aside0.mk (hb); have n1_ := Aside0.mk (ho); clear HB; clear HO_10; have HB := n0_; have HO287 := n1_; clear n0_ n1_; clear ho hb hg hat))
                          go_roundg k3
                          case measure => have := HJ3.out; have := HK2.out; have := HK3.out; omega
                          case rel => exact ⟨(y285), (wrap64 (x11_3 + (rd l1 x44_3))), (t283), (wrap64 (x44_3 + 1)), (by first | rfl | (simp; done) | (simp [*]; done)), (by first | rfl | (simp; done) | (simp [*]; done)), (by first | rfl | (simp; done) | (simp [*]; done)), H', ⟨by have := HJ3.out; have := HK2.out; have := HK3.out; omega⟩, ⟨by (with_reducible repeat (first | apply Kd.R_alloc | apply Kd.R_drewN | apply Kd.R_drew)); exact HO287.out⟩, ⟨by repeat (first | (with_reducible first | exact HB.out | apply below_alloc | apply pw_below_drewN | apply below_drew1) | exact HB.out)⟩⟩
                        · rw [if_neg c17] at H
                          exact absurd H (by simp)
                      · rw [if_neg c15] at H
                        exact absurd H (by simp)
                    · rw [if_neg c14] at H
                      exact absurd H (by simp)
                  · rw [if_neg c13] at H
                    have c13b0 : decide (x44_3 < (l1.length : Int)) = false := decide_eq_false c13
                    clear c13
                    simp only [Option.some.injEq, Prod.mk.injEq] at H
                    obtain ⟨rfl, rfl⟩ := H
                    go_wp2
                    go_ret2
                    exact ⟨_, by first | rfl | (simp [errW_none, errW_some] <;> rfl) | (simp [*, errW_none, errW_some] <;> rfl), by (with_reducible repeat (first | apply Kd.R_alloc | apply Kd.R_drewN | apply Kd.R_drew)); exact HO_10.out, by repeat (first | (with_reducible first | exact HB.out | apply below_alloc | apply pw_below_drewN | apply below_drew1) | exact HB.out)⟩

end Go.Proofs.Ytamfhlafhkgapaa.Px
