-- Lean text written by this session's own program (wip/tools/myprint.py) for this claim
import Derived.Test.YtldcgkkbmnahiaaPxx0
namespace Go.Proofs.Ytldcgkkbmnahiaa.Px
open Go.RowKit Go.Proofs.YtldcgkkbmnahiaaW.PrintWords Go.Proofs.YtldcgkkbmnahiaaW.PrintLast Go.Proofs.YtldcgkkbmnahiaaW.PrintMore
attribute [local go_sem] pw_max2 pw_min2 max_two min_two max_three min_three max_four min_four   -- for this text's walks alone
set_option linter.unusedVariables false
set_option linter.unusedSimpArgs false

/-! ### cmap_two: function 33 -/
def cmap_two.f (a0 : ByteArray) (a1 : Int) : Option (Int) := if 0 ≤ a1 then (if a1 < (a0.size : Int) then (if 0 ≤ (wrap64 (a1 + 1)) then (if (wrap64 (a1 + 1)) < (a0.size : Int) then (some (Go.bits .or .i64 (wrap64 ((wrap64 (bt a0 a1)) * 256)) (wrap64 (bt a0 (wrap64 (a1 + 1)))))) else (none)) else (none)) else (none)) else (none)
set_option maxHeartbeats 8000000 in
set_option maxRecDepth 100000 in
theorem cmap_two.calls (a0 : ByteArray) (a1 : Int) (r : Int) (w : World) (h : cmap_two.f a0 a1 = some r) :
  Calls Try.prog 33 #[.string a0, .int .i64 a1] w fun e w' => e = .returned (.int .i64 r) ∧ Drawn0 w w' := by
 have H : (if 0 ≤ a1 then (if a1 < (a0.size : Int) then (if 0 ≤ (wrap64 (a1 + 1)) then (if (wrap64 (a1 + 1)) < (a0.size : Int) then (some (Go.bits .or .i64 (wrap64 ((wrap64 (bt a0 a1)) * 256)) (wrap64 (bt a0 (wrap64 (a1 + 1)))))) else (none)) else (none)) else (none)) else (none)) = some r := h
 clear h
 by_cases c3 : 0 ≤ a1
 ·rw [if_pos c3] at H
  have c3b0 : decide (0 ≤ a1) = true := decide_eq_true c3
  clear c3
  by_cases c4 : a1 < (a0.size : Int)
  ·rw [if_pos c4] at H
   have c4b0 : decide (a1 < (a0.size : Int)) = true := decide_eq_true c4
   clear c4
   obtain ⟨ji6, hji6⟩ : ∃ j_ : Int, (wrap64 (a1 + 1)) = j_ := ⟨_, rfl⟩
   replace H : (if 0 ≤ (ji6) then (if (ji6) < (a0.size : Int) then (some (Go.bits .or .i64 (wrap64 ((wrap64 (bt a0 a1)) * 256)) (wrap64 (bt a0 (ji6))))) else (none)) else (none)) = some r := by first | (rw [hji6] at H; exact H) | (simp only [hji6] at H ⊢; exact H)
   have hji6w : (IntKind.i64.wrap (a1 + 1)) = ji6 := (i64_w _).trans hji6
   by_cases c7 : 0 ≤ (ji6)
   ·rw [if_pos c7] at H
    have c7b0 : decide (0 ≤ (ji6)) = true := decide_eq_true c7
    clear c7
    by_cases c8 : (ji6) < (a0.size : Int)
    ·rw [if_pos c8] at H
     have c8b0 : decide ((ji6) < (a0.size : Int)) = true := decide_eq_true c8
     clear c8
     obtain rfl := Option.some.inj H
     have p5 : 0 ≤ (a1 : Int) := of_decide_eq_true (by first | (with_reducible assumption) | assumption)
     have q5 : a1 < (a0.size : Int) := of_decide_eq_true (by first | (with_reducible assumption) | assumption)
     have hx5 := bt_at a0 a1
     replace p5 := eq_true p5
     replace q5 := eq_true q5
     have p9 : 0 ≤ ((ji6) : Int) := of_decide_eq_true (by first | (with_reducible assumption) | assumption)
     have q9 : (ji6) < (a0.size : Int) := of_decide_eq_true (by first | (with_reducible assumption) | assumption)
     have hx9 := bt_at a0 (ji6)
     replace p9 := eq_true p9
     replace q9 := eq_true q9
     go_enter Try.func33, Try.ntmps33
     go_wp2
     repeat (go_quiet (fail); try go_wp2)
     go_ret
     exact ⟨by first | rfl | (simp; done) | (simp only [← hji6] <;> (first | rfl | simp)) | (simp [*]; done) | (((first | rw [pw_wdiv _ _ (by omega) (by omega)] | rw [pw_wdiv' _ _ (by omega) (by omega)] | rw [Go.IntWalk.wrap64_in _ (by omega)]); repeat (first | rw [pw_wdiv _ _ (by omega) (by omega)] | rw [pw_wdiv' _ _ (by omega) (by omega)] | rw [Go.IntWalk.wrap64_in _ (by omega)])); rfl), by repeat (first | exact Drawn0.refl _ | apply Drawn0.step)⟩
    ·rw [if_neg c8] at H
     exact absurd H (by simp)
   ·rw [if_neg c7] at H
    exact absurd H (by simp)
  ·rw [if_neg c4] at H
   exact absurd H (by simp)
 ·rw [if_neg c3] at H
  exact absurd H (by simp)

/-! ### cmap_four: function 34 -/
def cmap_four.f (a0 : ByteArray) (a1 : Int) : Option (Int) := (cmap_two.f a0 a1).bind fun t101 => ((cmap_two.f a0 (wrap64 (a1 + 2))).bind fun t102 => (some (Go.bits .or .i64 (wrap64 (t101 * 65536)) t102)))
set_option maxHeartbeats 8000000 in
set_option maxRecDepth 100000 in
theorem cmap_four.calls (a0 : ByteArray) (a1 : Int) (r : Int) (w : World) (h : cmap_four.f a0 a1 = some r) :
  Calls Try.prog 34 #[.string a0, .int .i64 a1] w fun e w' => e = .returned (.int .i64 r) ∧ Drawn0 w w' := by
 have H : ((cmap_two.f a0 a1).bind fun t101 => ((cmap_two.f a0 (wrap64 (a1 + 2))).bind fun t102 => (some (Go.bits .or .i64 (wrap64 (t101 * 65536)) t102)))) = some r := h
 clear h
 replace H := Option.bind_eq_some_iff.mp H
 obtain ⟨t101, A30, H⟩ := H
 (try dsimp only at H)
 have A3 := Aside0.mk A30
 clear A30
 replace H := Option.bind_eq_some_iff.mp H
 obtain ⟨t102, A40, H⟩ := H
 (try dsimp only at H)
 have A4 := Aside0.mk A40
 clear A40
 obtain rfl := Option.some.inj H
 go_enter Try.func34, Try.ntmps34
 go_wp2_with (first | ((with_reducible refine gate_callee (f := 33) rfl ?_); refine goesL_ (some 7) rfl rfl Try.func33 (by kernel_rfl) rfl #[.string a0, .int .i64 a1] rfl (by (try simp only [List.map_toArray, List.map_cons, List.map_nil]); first | done | rfl) ?_; (with_reducible refine (cmap_two.calls a0 a1 t101 _ A3.out).mono ?_); rintro e w' ⟨rfl, ⟨nd, rfl⟩⟩; refine ⟨_, rfl, ?_⟩) | ((with_reducible refine gate_callee (f := 33) rfl ?_); refine goesL_ (some 12) rfl rfl Try.func33 (by kernel_rfl) rfl #[.string a0, .int .i64 (wrap64 (a1 + 2))] rfl (by (try simp only [List.map_toArray, List.map_cons, List.map_nil]); first | done | rfl) ?_; (with_reducible refine (cmap_two.calls a0 (wrap64 (a1 + 2)) t102 _ A4.out).mono ?_); rintro e w' ⟨rfl, ⟨nd, rfl⟩⟩; refine ⟨_, rfl, ?_⟩))
 go_ret
 exact ⟨by first | rfl | (simp; done) | (simp [*]; done) | (((first | rw [pw_wdiv _ _ (by omega) (by omega)] | rw [pw_wdiv' _ _ (by omega) (by omega)] | rw [Go.IntWalk.wrap64_in _ (by omega)]); repeat (first | rw [pw_wdiv _ _ (by omega) (by omega)] | rw [pw_wdiv' _ _ (by omega) (by omega)] | rw [Go.IntWalk.wrap64_in _ (by omega)])); rfl), by repeat (first | exact Drawn0.refl _ | apply Drawn0.step)⟩

/-! ### cmap_counted: function 19 -/
mutual
def cmap_counted.j0 : Nat → ByteArray → Int → Bool → Bool → Option (Int × Bool × Bool)
 | 0, _, _, _, _ => none
 | k + 1, x0, x2, x4, x25 => if x25 = true then (some (0, false, false)) else ((cmap_two.f x0 2).bind fun t105 => (cmap_counted.l0 k x0 x2 x4 t105 0))
def cmap_counted.l0 : Nat → ByteArray → Int → Bool → Int → Int → Option (Int × Bool × Bool)
 | 0, _, _, _, _, _ => none
 | k + 1, x0, x2, x4, x27, x28 => if x28 < x27 then ((cmap_two.f x0 (wrap64 (4 + (wrap64 (8 * x28))))).bind fun t106 => ((cmap_two.f x0 (wrap64 ((wrap64 (4 + (wrap64 (8 * x28)))) + 2))).bind fun t107 => (if t106 = 3 then (if t107 = 10 then (cmap_counted.j2 k x0 x2 x4 (wrap64 (4 + (wrap64 (8 * x28)))) t106 t107 x27 x28 true) else (if t106 = 0 then (cmap_counted.j2 k x0 x2 x4 (wrap64 (4 + (wrap64 (8 * x28)))) t106 t107 x27 x28 (t107 == 4)) else (cmap_counted.j2 k x0 x2 x4 (wrap64 (4 + (wrap64 (8 * x28)))) t106 t107 x27 x28 false))) else (if t106 = 0 then (cmap_counted.j2 k x0 x2 x4 (wrap64 (4 + (wrap64 (8 * x28)))) t106 t107 x27 x28 (t107 == 4)) else (cmap_counted.j2 k x0 x2 x4 (wrap64 (4 + (wrap64 (8 * x28)))) t106 t107 x27 x28 false))))) else (some (x2, false, x4))
def cmap_counted.j2 : Nat → ByteArray → Int → Bool → Int → Int → Int → Int → Int → Bool → Option (Int × Bool × Bool)
 | 0, _, _, _, _, _, _, _, _, _ => none
 | k + 1, x0, x2, x4, x6, x7, x8, x27, x28, x41 => if x41 = true then ((cmap_four.f x0 (wrap64 (x6 + 4))).bind fun t108 => (some (t108, true, true))) else (if x4 = true then (cmap_counted.l0 k x0 x2 x4 x27 (wrap64 (x28 + 1))) else (if x7 = 3 then (if x8 = 1 then ((cmap_four.f x0 (wrap64 (x6 + 4))).bind fun t109 => (cmap_counted.l0 k x0 t109 true x27 (wrap64 (x28 + 1)))) else (if x7 = 0 then (if x8 ≤ 3 then ((cmap_four.f x0 (wrap64 (x6 + 4))).bind fun t110 => (cmap_counted.l0 k x0 t110 true x27 (wrap64 (x28 + 1)))) else (cmap_counted.l0 k x0 x2 x4 x27 (wrap64 (x28 + 1)))) else (cmap_counted.l0 k x0 x2 x4 x27 (wrap64 (x28 + 1))))) else (if x7 = 0 then (if x8 ≤ 3 then ((cmap_four.f x0 (wrap64 (x6 + 4))).bind fun t111 => (cmap_counted.l0 k x0 t111 true x27 (wrap64 (x28 + 1)))) else (cmap_counted.l0 k x0 x2 x4 x27 (wrap64 (x28 + 1)))) else (cmap_counted.l0 k x0 x2 x4 x27 (wrap64 (x28 + 1))))))
end
def cmap_counted.f (k : Nat) (a0 : ByteArray) : Option (Int × Bool × Bool) := if (a0.size : Int) < 4 then (cmap_counted.j0 k a0 0 false true) else ((cmap_two.f a0 0).bind fun t103 => (if t103 = 0 then ((cmap_two.f a0 2).bind fun t104 => (cmap_counted.j0 k a0 0 false (decide ((a0.size : Int) < (wrap64 (4 + (wrap64 (8 * t104)))))))) else (cmap_counted.j0 k a0 0 false true)))
theorem cmap_counted.mono_l : ∀ k, (∀ y0 y1 y2 y3, LeO (cmap_counted.j0 k y0 y1 y2 y3) (cmap_counted.j0 (k + 1) y0 y1 y2 y3)) ∧ (∀ y0 y1 y2 y3 y4, LeO (cmap_counted.l0 k y0 y1 y2 y3 y4) (cmap_counted.l0 (k + 1) y0 y1 y2 y3 y4)) ∧ (∀ y0 y1 y2 y3 y4 y5 y6 y7 y8, LeO (cmap_counted.j2 k y0 y1 y2 y3 y4 y5 y6 y7 y8) (cmap_counted.j2 (k + 1) y0 y1 y2 y3 y4 y5 y6 y7 y8))
 | 0 => ⟨fun _ _ _ _ r h => by simp [cmap_counted.j0] at h, fun _ _ _ _ _ r h => by simp [cmap_counted.l0] at h, fun _ _ _ _ _ _ _ _ _ r h => by simp [cmap_counted.j2] at h⟩
 | k + 1 => by
  obtain ⟨ih0, ih1, ih2⟩ := cmap_counted.mono_l k
  refine ⟨?_, ?_, ?_⟩
  ·intro y0 y1 y2 y3
   unfold cmap_counted.j0
   repeat' first
   | (with_reducible exact ih0 _ _ _ _)
   | (with_reducible exact ih1 _ _ _ _ _)
   | (with_reducible exact ih2 _ _ _ _ _ _ _ _ _)
   | (with_reducible exact LeO.refl _)
   | (with_reducible exact LeO.none _)
   | (with_reducible refine LeO.ite ?_ ?_)
   | (with_reducible refine LeO.bind ?_ (fun _ => ?_))
   | exact ih0 _ _ _ _
   | exact ih1 _ _ _ _ _
   | exact ih2 _ _ _ _ _ _ _ _ _
   | exact LeO.none _
   | refine LeO.ite ?_ ?_
   | refine LeO.bind ?_ (fun _ => ?_)
  ·intro y0 y1 y2 y3 y4
   unfold cmap_counted.l0
   repeat' first
   | (with_reducible exact ih0 _ _ _ _)
   | (with_reducible exact ih1 _ _ _ _ _)
   | (with_reducible exact ih2 _ _ _ _ _ _ _ _ _)
   | (with_reducible exact LeO.refl _)
   | (with_reducible exact LeO.none _)
   | (with_reducible refine LeO.ite ?_ ?_)
   | (with_reducible refine LeO.bind ?_ (fun _ => ?_))
   | exact ih0 _ _ _ _
   | exact ih1 _ _ _ _ _
   | exact ih2 _ _ _ _ _ _ _ _ _
   | exact LeO.none _
   | refine LeO.ite ?_ ?_
   | refine LeO.bind ?_ (fun _ => ?_)
  ·intro y0 y1 y2 y3 y4 y5 y6 y7 y8
   unfold cmap_counted.j2
   repeat' first
   | (with_reducible exact ih0 _ _ _ _)
   | (with_reducible exact ih1 _ _ _ _ _)
   | (with_reducible exact ih2 _ _ _ _ _ _ _ _ _)
   | (with_reducible exact LeO.refl _)
   | (with_reducible exact LeO.none _)
   | (with_reducible refine LeO.ite ?_ ?_)
   | (with_reducible refine LeO.bind ?_ (fun _ => ?_))
   | exact ih0 _ _ _ _
   | exact ih1 _ _ _ _ _
   | exact ih2 _ _ _ _ _ _ _ _ _
   | exact LeO.none _
   | refine LeO.ite ?_ ?_
   | refine LeO.bind ?_ (fun _ => ?_)
theorem cmap_counted.mono : ∀ a0 k, LeO (cmap_counted.f k a0) (cmap_counted.f (k + 1) a0) := by
 intro a0 k
 obtain ⟨ih0, ih1, ih2⟩ := cmap_counted.mono_l k
 unfold cmap_counted.f
 repeat' first
   | (with_reducible exact ih0 _ _ _ _)
   | (with_reducible exact ih1 _ _ _ _ _)
   | (with_reducible exact ih2 _ _ _ _ _ _ _ _ _)
   | (with_reducible exact LeO.refl _)
   | (with_reducible exact LeO.none _)
   | (with_reducible refine LeO.ite ?_ ?_)
   | (with_reducible refine LeO.bind ?_ (fun _ => ?_))
   | exact ih0 _ _ _ _
   | exact ih1 _ _ _ _ _
   | exact ih2 _ _ _ _ _ _ _ _ _
   | exact LeO.none _
   | refine LeO.ite ?_ ?_
   | refine LeO.bind ?_ (fun _ => ?_)
set_option maxHeartbeats 8000000 in
set_option maxRecDepth 100000 in
theorem cmap_counted.calls (k : Nat) (a0 : ByteArray) (r1 : Int) (r2 : Bool) (r3 : Bool) (w : World) (h : cmap_counted.f k a0 = some (r1, r2, r3)) :
  Calls Try.prog 19 #[.string a0] w fun e w' => e = .returned (.tuple #[.int .i64 r1, .bool r2, .bool r3]) ∧ Drawn0 w w' := by
 have H : (if (a0.size : Int) < 4 then (cmap_counted.j0 k a0 0 false true) else ((cmap_two.f a0 0).bind fun t103 => (if t103 = 0 then ((cmap_two.f a0 2).bind fun t104 => (cmap_counted.j0 k a0 0 false (decide ((a0.size : Int) < (wrap64 (4 + (wrap64 (8 * t104)))))))) else (cmap_counted.j0 k a0 0 false true)))) = some (r1, r2, r3) := h
 clear h
 have HC2 := Aside0.mk H
 clear H
 go_enter Try.func19, Try.ntmps19
 go_upto_region 1 with (fail)
 go_cut [25] (fun v25 wc => ∃ (kq : Nat) (x25_1 : Bool), v25 = .bool x25_1 ∧ Aside0 (cmap_counted.j0 kq a0 0 false x25_1 = some (r1, r2, r3)) ∧ Aside0 (kq ≤ k) ∧ Drawn0 w wc)
 case first =>
  have H := HC2.out
  clear HC2
  by_cases c3 : (a0.size : Int) < 4
  ·rw [if_pos c3] at H
   have c3b0 : decide ((a0.size : Int) < 4) = true := decide_eq_true c3
   have c3b1 : decide (a0.size < 4) = true := decide_eq_true (by omega)
   clear c3
   (first | rw [c3b0] | (simp only [i64_w, i32_w]; rw [c3b0]) | skip)
   have H' := Aside0.mk H
   clear H
   go_wp2
   go_meet
   case rel => exact ⟨_, (true), (by first | rfl | (simp; done) | (simp [*]; done)), H', ⟨by first | omega | exact Nat.le_refl _⟩, by repeat (first | exact Drawn0.refl _ | apply Drawn0.step)⟩
  ·rw [if_neg c3] at H
   have c3b0 : decide ((a0.size : Int) < 4) = false := decide_eq_false c3
   have c3b1 : decide (a0.size < 4) = false := decide_eq_false (by omega)
   clear c3
   (first | rw [c3b0] | (simp only [i64_w, i32_w]; rw [c3b0]) | skip)
   replace H := Option.bind_eq_some_iff.mp H
   obtain ⟨t103, A40, H⟩ := H
   (try dsimp only at H)
   have A4 := Aside0.mk A40
   clear A40
   by_cases c5 : t103 = 0
   ·rw [if_pos c5] at H
    have c5b0 : (t103 == 0) = true := beq_iff_eq.mpr c5
    have c5b1 : (t103 != 0) = false := bne_eq_false_iff_eq.mpr c5
    clear c5
    replace H := Option.bind_eq_some_iff.mp H
    obtain ⟨t104, A60, H⟩ := H
    (try dsimp only at H)
    have A6 := Aside0.mk A60
    clear A60
    have H' := Aside0.mk H
    clear H
    go_wp2_with (first | (go_at_call 33; (with_reducible refine (cmap_two.calls a0 0 t103 _ A4.out).mono ?_); rintro e w' ⟨rfl, ⟨nd, rfl⟩⟩) | (go_at_call 33; (with_reducible refine (cmap_two.calls a0 2 t104 _ A6.out).mono ?_); rintro e w' ⟨rfl, ⟨nd, rfl⟩⟩))
    go_meet
    case rel => exact ⟨_, (decide ((a0.size : Int) < (wrap64 (4 + (wrap64 (8 * t104)))))), (by first | rfl | (simp; done) | (simp [*]; done)), H', ⟨by first | omega | exact Nat.le_refl _⟩, by repeat (first | exact Drawn0.refl _ | apply Drawn0.step)⟩
   ·rw [if_neg c5] at H
    have c5b0 : (t103 == 0) = false := beq_eq_false_iff_ne.mpr c5
    have c5b1 : (t103 != 0) = true := bne_iff_ne.mpr c5
    have H' := Aside0.mk H
    clear H
    go_wp2_with (first | (go_at_call 33; (with_reducible refine (cmap_two.calls a0 0 t103 _ A4.out).mono ?_); rintro e w' ⟨rfl, ⟨nd, rfl⟩⟩))
    go_meet
    case rel => exact ⟨_, (true), (by first | rfl | (simp; done) | (simp [*]; done)), H', ⟨by first | omega | exact Nat.le_refl _⟩, by repeat (first | exact Drawn0.refl _ | apply Drawn0.step)⟩
 case rest =>
  clear HC2
  try clear c1
  try clear p2
  try clear c3
  try clear c3b0
  try clear c3b1
  try clear c5
  try clear c5b0
  try clear c5b1
  try clear p6
  obtain ⟨kq, x25_1, rfl, HA, HJ1, ⟨mc1, rfl⟩⟩ := hcut
  cases kq with
  | zero => exact absurd HA.out (by simp [cmap_counted.j0])
  | succ kj1 =>
   have H := HA.out
   clear HA
   simp only [cmap_counted.j0] at H
   by_cases c7 : x25_1 = true
   ·subst c7
    have H1 : (some (0, false, false)) = some (r1, r2, r3) := by rw [if_pos rfl] at H; exact H
    clear H
    have H := H1
    clear H1
    simp only [Option.some.injEq, Prod.mk.injEq] at H
    obtain ⟨rfl, rfl, rfl⟩ := H
    go_wp2
    go_ret3
    exact ⟨by first | rfl | (simp; done) | (simp [*]; done) | (((first | rw [pw_wdiv _ _ (by omega) (by omega)] | rw [pw_wdiv' _ _ (by omega) (by omega)] | rw [Go.IntWalk.wrap64_in _ (by omega)]); repeat (first | rw [pw_wdiv _ _ (by omega) (by omega)] | rw [pw_wdiv' _ _ (by omega) (by omega)] | rw [Go.IntWalk.wrap64_in _ (by omega)])); rfl), by repeat (first | exact Drawn0.refl _ | apply Drawn0.step)⟩
   ·replace c7 := Bool.eq_false_iff.mpr c7
    subst c7
    have H1 : ((cmap_two.f a0 2).bind fun t105 => (cmap_counted.l0 kj1 a0 0 false t105 0)) = some (r1, r2, r3) := by rw [if_neg (show ¬ (false = true) by decide)] at H; exact H
    clear H
    have H := H1
    clear H1
    replace H := Option.bind_eq_some_iff.mp H
    obtain ⟨t105, A80, H⟩ := H
    (try dsimp only at H)
    have A8 := Aside0.mk A80
    clear A80
    have H' := Aside0.mk H
    clear H
    go_wp2_with (first | ((with_reducible refine gate_callee (f := 33) rfl ?_); refine goesL_ (some 27) rfl rfl Try.func33 (by kernel_rfl) rfl #[.string a0, .int .i64 2] rfl (by (try simp only [List.map_toArray, List.map_cons, List.map_nil]); first | done | rfl) ?_; (with_reducible refine (cmap_two.calls a0 2 t105 _ A8.out).mono ?_); rintro e w' ⟨rfl, ⟨nd, rfl⟩⟩; refine ⟨_, rfl, ?_⟩))
    go_loopg [2, 4, 28] kj1 (fun kq v2 v4 v28 w' => ∃ (x2_2 : Int) (x4_2 : Bool) (x28_2 : Int), v2 = .int .i64 x2_2 ∧ v4 = .bool x4_2 ∧ v28 = .int .i64 x28_2 ∧ Aside0 (cmap_counted.l0 kq a0 x2_2 x4_2 t105 x28_2 = some (r1, r2, r3)) ∧ Aside0 (kq ≤ kj1) ∧ Drawn0 w w')
    case atStart => exact ⟨(0), (false), (0), (by first | rfl | (simp; done) | (simp [*]; done)), (by first | rfl | (simp; done) | (simp [*]; done)), (by first | rfl | (simp; done) | (simp [*]; done)), H', ⟨Nat.le_refl _⟩, by repeat (first | exact Drawn0.refl _ | apply Drawn0.step)⟩
    case round =>
     clear H'
     try clear c1
     try clear p2
     try clear c3
     try clear c3b0
     try clear c3b1
     try clear c5
     try clear c5b0
     try clear c5b1
     try clear p6
     try clear c7
     try clear p2
     try clear p6
     obtain ⟨x2_2, x4_2, x28_2, rfl, rfl, rfl, HA, HK2, ⟨m2, rfl⟩⟩ := hrel
     cases gk with
     | zero => exact absurd HA.out (by simp [cmap_counted.l0])
     | succ k2 =>
      have H := HA.out
      clear HA
      simp only [cmap_counted.l0] at H
      by_cases c9 : x28_2 < t105
      ·rw [if_pos c9] at H
       have c9b0 : decide (x28_2 < t105) = true := decide_eq_true c9
       clear c9
       replace H := Option.bind_eq_some_iff.mp H
       obtain ⟨t106, A100, H⟩ := H
       (try dsimp only at H)
       have A10 := Aside0.mk A100
       clear A100
       replace H := Option.bind_eq_some_iff.mp H
       obtain ⟨t107, A110, H⟩ := H
       (try dsimp only at H)
       have A11 := Aside0.mk A110
       clear A110
       have HC12 := Aside0.mk H
       clear H
       go_upto_region 8 with (first | ((with_reducible refine gate_callee (f := 33) rfl ?_); refine goesL_ (some 36) rfl rfl Try.func33 (by kernel_rfl) rfl #[.string a0, .int .i64 (wrap64 (4 + (wrap64 (8 * x28_2))))] rfl (by (try simp only [List.map_toArray, List.map_cons, List.map_nil]); first | done | rfl) ?_; (with_reducible refine (cmap_two.calls a0 (wrap64 (4 + (wrap64 (8 * x28_2)))) t106 _ A10.out).mono ?_); rintro e w' ⟨rfl, ⟨nd, rfl⟩⟩; refine ⟨_, rfl, ?_⟩) | ((with_reducible refine gate_callee (f := 33) rfl ?_); refine goesL_ (some 40) rfl rfl Try.func33 (by kernel_rfl) rfl #[.string a0, .int .i64 (wrap64 ((wrap64 (4 + (wrap64 (8 * x28_2)))) + 2))] rfl (by (try simp only [List.map_toArray, List.map_cons, List.map_nil]); first | done | rfl) ?_; (with_reducible refine (cmap_two.calls a0 (wrap64 ((wrap64 (4 + (wrap64 (8 * x28_2)))) + 2)) t107 _ A11.out).mono ?_); rintro e w' ⟨rfl, ⟨nd, rfl⟩⟩; refine ⟨_, rfl, ?_⟩))
       (try simp only [Act.put, List.setIfInBounds_toArray, List.set_cons_zero, List.set_cons_succ])
       go_cut [41] (fun v41 wc => ∃ (kq : Nat) (x41_11 : Bool), v41 = .bool x41_11 ∧ Aside0 (cmap_counted.j2 kq a0 x2_2 x4_2 (wrap64 (4 + (wrap64 (8 * x28_2)))) t106 t107 t105 x28_2 x41_11 = some (r1, r2, r3)) ∧ Aside0 (kq ≤ k2) ∧ Drawn0 w wc)
       case first =>
        have H := HC12.out
        clear HC12
        by_cases c13 : t106 = 3
        ·rw [if_pos c13] at H
         have c13b0 : (t106 == 3) = true := beq_iff_eq.mpr c13
         have c13b1 : (t106 != 3) = false := bne_eq_false_iff_eq.mpr c13
         clear c13
         (first | rw [c13b0] | (simp only [i64_w, i32_w]; rw [c13b0]) | skip)
         by_cases c14 : t107 = 10
         ·rw [if_pos c14] at H
          have c14b0 : (t107 == 10) = true := beq_iff_eq.mpr c14
          have c14b1 : (t107 != 10) = false := bne_eq_false_iff_eq.mpr c14
          clear c14
          have H' := Aside0.mk H
          clear H
          go_wp2
          go_meet
          case rel => exact ⟨_, (true), (by first | rfl | (simp; done) | (simp [*]; done)), H', ⟨by have := HJ1.out; have := HK2.out; first | omega | exact Nat.le_refl _⟩, by repeat (first | exact Drawn0.refl _ | apply Drawn0.step)⟩
         ·rw [if_neg c14] at H
          have c14b0 : (t107 == 10) = false := beq_eq_false_iff_ne.mpr c14
          have c14b1 : (t107 != 10) = true := bne_iff_ne.mpr c14
          by_cases c15 : t106 = 0
          ·rw [if_pos c15] at H
           have c15b0 : (t106 == 0) = true := beq_iff_eq.mpr c15
           have c15b1 : (t106 != 0) = false := bne_eq_false_iff_eq.mpr c15
           clear c15
           have H' := Aside0.mk H
           clear H
           go_wp2
           go_meet
           case rel => exact ⟨_, ((t107 == 4)), (by first | rfl | (simp; done) | (simp [*]; done)), H', ⟨by have := HJ1.out; have := HK2.out; first | omega | exact Nat.le_refl _⟩, by repeat (first | exact Drawn0.refl _ | apply Drawn0.step)⟩
          ·rw [if_neg c15] at H
           have c15b0 : (t106 == 0) = false := beq_eq_false_iff_ne.mpr c15
           have c15b1 : (t106 != 0) = true := bne_iff_ne.mpr c15
           have H' := Aside0.mk H
           clear H
           go_wp2
           go_meet
           case rel => exact ⟨_, (false), (by first | rfl | (simp; done) | (simp [*]; done)), H', ⟨by have := HJ1.out; have := HK2.out; first | omega | exact Nat.le_refl _⟩, by repeat (first | exact Drawn0.refl _ | apply Drawn0.step)⟩
        ·rw [if_neg c13] at H
         have c13b0 : (t106 == 3) = false := beq_eq_false_iff_ne.mpr c13
         have c13b1 : (t106 != 3) = true := bne_iff_ne.mpr c13
         (first | rw [c13b0] | (simp only [i64_w, i32_w]; rw [c13b0]) | skip)
         by_cases c16 : t106 = 0
         ·rw [if_pos c16] at H
          have c16b0 : (t106 == 0) = true := beq_iff_eq.mpr c16
          have c16b1 : (t106 != 0) = false := bne_eq_false_iff_eq.mpr c16
          clear c16
          have H' := Aside0.mk H
          clear H
          go_wp2
          go_meet
          case rel => exact ⟨_, ((t107 == 4)), (by first | rfl | (simp; done) | (simp [*]; done)), H', ⟨by have := HJ1.out; have := HK2.out; first | omega | exact Nat.le_refl _⟩, by repeat (first | exact Drawn0.refl _ | apply Drawn0.step)⟩
         ·rw [if_neg c16] at H
          have c16b0 : (t106 == 0) = false := beq_eq_false_iff_ne.mpr c16
          have c16b1 : (t106 != 0) = true := bne_iff_ne.mpr c16
          have H' := Aside0.mk H
          clear H
          go_wp2
          go_meet
          case rel => exact ⟨_, (false), (by first | rfl | (simp; done) | (simp [*]; done)), H', ⟨by have := HJ1.out; have := HK2.out; first | omega | exact Nat.le_refl _⟩, by repeat (first | exact Drawn0.refl _ | apply Drawn0.step)⟩
       case rest =>
        clear HC12
        try clear c1
        try clear p2
        try clear c3
        try clear c3b0
        try clear c3b1
        try clear c5
        try clear c5b0
        try clear c5b1
        try clear p6
        try clear c7
        try clear c9
        try clear c9b0
        try clear c13
        try clear c13b0
        try clear c13b1
        try clear c14
        try clear c14b0
        try clear c14b1
        try clear c15
        try clear c15b0
        try clear c15b1
        try clear c16
        try clear c16b0
        try clear c16b1
        try clear p2
        try clear p6
        obtain ⟨kq, x41_11, rfl, HA, HJ11, ⟨mc11, rfl⟩⟩ := hcut
        cases kq with
        | zero => exact absurd HA.out (by simp [cmap_counted.j2])
        | succ kj11 =>
         have H := HA.out
         clear HA
         simp only [cmap_counted.j2] at H
         by_cases c17 : x41_11 = true
         ·subst c17
          have H1 : ((cmap_four.f a0 (wrap64 ((wrap64 (4 + (wrap64 (8 * x28_2)))) + 4))).bind fun t108 => (some (t108, true, true))) = some (r1, r2, r3) := by rw [if_pos rfl] at H; exact H
          clear H
          have H := H1
          clear H1
          replace H := Option.bind_eq_some_iff.mp H
          obtain ⟨t108, A180, H⟩ := H
          (try dsimp only at H)
          have A18 := Aside0.mk A180
          clear A180
          simp only [Option.some.injEq, Prod.mk.injEq] at H
          obtain ⟨rfl, rfl, rfl⟩ := H
          go_wp2_with (first | ((with_reducible refine gate_callee (f := 34) rfl ?_); refine goesL_ (some 59) rfl rfl Try.func34 (by kernel_rfl) rfl #[.string a0, .int .i64 (wrap64 ((wrap64 (4 + (wrap64 (8 * x28_2)))) + 4))] rfl (by (try simp only [List.map_toArray, List.map_cons, List.map_nil]); first | done | rfl) ?_; (with_reducible refine (cmap_four.calls a0 (wrap64 ((wrap64 (4 + (wrap64 (8 * x28_2)))) + 4)) t108 _ A18.out).mono ?_); rintro e w' ⟨rfl, ⟨nd, rfl⟩⟩; refine ⟨_, rfl, ?_⟩))
          go_ret3
          exact ⟨by first | rfl | (simp; done) | (simp [*]; done) | (((first | rw [pw_wdiv _ _ (by omega) (by omega)] | rw [pw_wdiv' _ _ (by omega) (by omega)] | rw [Go.IntWalk.wrap64_in _ (by omega)]); repeat (first | rw [pw_wdiv _ _ (by omega) (by omega)] | rw [pw_wdiv' _ _ (by omega) (by omega)] | rw [Go.IntWalk.wrap64_in _ (by omega)])); rfl), by repeat (first | exact Drawn0.refl _ | apply Drawn0.step)⟩
         ·replace c17 := Bool.eq_false_iff.mpr c17
          subst c17
          have H1 : (if x4_2 = true then (cmap_counted.l0 kj11 a0 x2_2 x4_2 t105 (wrap64 (x28_2 + 1))) else (if t106 = 3 then (if t107 = 1 then ((cmap_four.f a0 (wrap64 ((wrap64 (4 + (wrap64 (8 * x28_2)))) + 4))).bind fun t109 => (cmap_counted.l0 kj11 a0 t109 true t105 (wrap64 (x28_2 + 1)))) else (if t106 = 0 then (if t107 ≤ 3 then ((cmap_four.f a0 (wrap64 ((wrap64 (4 + (wrap64 (8 * x28_2)))) + 4))).bind fun t110 => (cmap_counted.l0 kj11 a0 t110 true t105 (wrap64 (x28_2 + 1)))) else (cmap_counted.l0 kj11 a0 x2_2 x4_2 t105 (wrap64 (x28_2 + 1)))) else (cmap_counted.l0 kj11 a0 x2_2 x4_2 t105 (wrap64 (x28_2 + 1))))) else (if t106 = 0 then (if t107 ≤ 3 then ((cmap_four.f a0 (wrap64 ((wrap64 (4 + (wrap64 (8 * x28_2)))) + 4))).bind fun t111 => (cmap_counted.l0 kj11 a0 t111 true t105 (wrap64 (x28_2 + 1)))) else (cmap_counted.l0 kj11 a0 x2_2 x4_2 t105 (wrap64 (x28_2 + 1)))) else (cmap_counted.l0 kj11 a0 x2_2 x4_2 t105 (wrap64 (x28_2 + 1)))))) = some (r1, r2, r3) := by rw [if_neg (show ¬ (false = true) by decide)] at H; exact H
          clear H
          have H := H1
          clear H1
          by_cases c19 : x4_2 = true
          ·subst c19
           have H1 : (cmap_counted.l0 kj11 a0 x2_2 true t105 (wrap64 (x28_2 + 1))) = some (r1, r2, r3) := by rw [if_pos rfl] at H; exact H
           clear H
           have H := H1
           clear H1
           have H' := Aside0.mk H
           clear H
           go_wp2
           go_roundg kj11
           case measure => have := HJ1.out; have := HK2.out; have := HJ11.out; omega
           case rel => exact ⟨(x2_2), (true), (wrap64 (x28_2 + 1)), (by first | rfl | (simp; done) | (simp [*]; done)), (by first | rfl | (simp; done) | (simp [*]; done)), (by first | rfl | (simp; done) | (simp [*]; done)), H', ⟨by have := HJ1.out; have := HK2.out; have := HJ11.out; omega⟩, by repeat (first | exact Drawn0.refl _ | apply Drawn0.step)⟩
          ·replace c19 := Bool.eq_false_iff.mpr c19
           subst c19
           have H1 : (if t106 = 3 then (if t107 = 1 then ((cmap_four.f a0 (wrap64 ((wrap64 (4 + (wrap64 (8 * x28_2)))) + 4))).bind fun t109 => (cmap_counted.l0 kj11 a0 t109 true t105 (wrap64 (x28_2 + 1)))) else (if t106 = 0 then (if t107 ≤ 3 then ((cmap_four.f a0 (wrap64 ((wrap64 (4 + (wrap64 (8 * x28_2)))) + 4))).bind fun t110 => (cmap_counted.l0 kj11 a0 t110 true t105 (wrap64 (x28_2 + 1)))) else (cmap_counted.l0 kj11 a0 x2_2 false t105 (wrap64 (x28_2 + 1)))) else (cmap_counted.l0 kj11 a0 x2_2 false t105 (wrap64 (x28_2 + 1))))) else (if t106 = 0 then (if t107 ≤ 3 then ((cmap_four.f a0 (wrap64 ((wrap64 (4 + (wrap64 (8 * x28_2)))) + 4))).bind fun t111 => (cmap_counted.l0 kj11 a0 t111 true t105 (wrap64 (x28_2 + 1)))) else (cmap_counted.l0 kj11 a0 x2_2 false t105 (wrap64 (x28_2 + 1)))) else (cmap_counted.l0 kj11 a0 x2_2 false t105 (wrap64 (x28_2 + 1))))) = some (r1, r2, r3) := by rw [if_neg (show ¬ (false = true) by decide)] at H; exact H
           clear H
           have H := H1
           clear H1
           by_cases c20 : t106 = 3
           ·rw [if_pos c20] at H
            have c20b0 : (t106 == 3) = true := beq_iff_eq.mpr c20
            have c20b1 : (t106 != 3) = false := bne_eq_false_iff_eq.mpr c20
            clear c20
            by_cases c21 : t107 = 1
            ·rw [if_pos c21] at H
             have c21b0 : (t107 == 1) = true := beq_iff_eq.mpr c21
             have c21b1 : (t107 != 1) = false := bne_eq_false_iff_eq.mpr c21
             clear c21
             replace H := Option.bind_eq_some_iff.mp H
             obtain ⟨t109, A220, H⟩ := H
             (try dsimp only at H)
             have A22 := Aside0.mk A220
             clear A220
             have H' := Aside0.mk H
             clear H
             go_wp2_with (first | ((with_reducible refine gate_callee (f := 34) rfl ?_); refine goesL_ (some 82) rfl rfl Try.func34 (by kernel_rfl) rfl #[.string a0, .int .i64 (wrap64 ((wrap64 (4 + (wrap64 (8 * x28_2)))) + 4))] rfl (by (try simp only [List.map_toArray, List.map_cons, List.map_nil]); first | done | rfl) ?_; (with_reducible refine (cmap_four.calls a0 (wrap64 ((wrap64 (4 + (wrap64 (8 * x28_2)))) + 4)) t109 _ A22.out).mono ?_); rintro e w' ⟨rfl, ⟨nd, rfl⟩⟩; refine ⟨_, rfl, ?_⟩))
             go_roundg kj11
             case measure => have := HJ1.out; have := HK2.out; have := HJ11.out; omega
             case rel => exact ⟨(t109), (true), (wrap64 (x28_2 + 1)), (by first | rfl | (simp; done) | (simp [*]; done)), (by first | rfl | (simp; done) | (simp [*]; done)), (by first | rfl | (simp; done) | (simp [*]; done)), H', ⟨by have := HJ1.out; have := HK2.out; have := HJ11.out; omega⟩, by repeat (first | exact Drawn0.refl _ | apply Drawn0.step)⟩
            ·rw [if_neg c21] at H
             have c21b0 : (t107 == 1) = false := beq_eq_false_iff_ne.mpr c21
             have c21b1 : (t107 != 1) = true := bne_iff_ne.mpr c21
             by_cases c23 : t106 = 0
             ·rw [if_pos c23] at H
              have c23b0 : (t106 == 0) = true := beq_iff_eq.mpr c23
              have c23b1 : (t106 != 0) = false := bne_eq_false_iff_eq.mpr c23
              clear c23
              by_cases c24 : t107 ≤ 3
              ·rw [if_pos c24] at H
               have c24b0 : decide (t107 ≤ 3) = true := decide_eq_true c24
               clear c24
               replace H := Option.bind_eq_some_iff.mp H
               obtain ⟨t110, A250, H⟩ := H
               (try dsimp only at H)
               have A25 := Aside0.mk A250
               clear A250
               have H' := Aside0.mk H
               clear H
               go_wp2_with (first | ((with_reducible refine gate_callee (f := 34) rfl ?_); refine goesL_ (some 82) rfl rfl Try.func34 (by kernel_rfl) rfl #[.string a0, .int .i64 (wrap64 ((wrap64 (4 + (wrap64 (8 * x28_2)))) + 4))] rfl (by (try simp only [List.map_toArray, List.map_cons, List.map_nil]); first | done | rfl) ?_; (with_reducible refine (cmap_four.calls a0 (wrap64 ((wrap64 (4 + (wrap64 (8 * x28_2)))) + 4)) t110 _ A25.out).mono ?_); rintro e w' ⟨rfl, ⟨nd, rfl⟩⟩; refine ⟨_, rfl, ?_⟩))
               go_roundg kj11
               case measure => have := HJ1.out; have := HK2.out; have := HJ11.out; omega
               case rel => exact ⟨(t110), (true), (wrap64 (x28_2 + 1)), (by first | rfl | (simp; done) | (simp [*]; done)), (by first | rfl | (simp; done) | (simp [*]; done)), (by first | rfl | (simp; done) | (simp [*]; done)), H', ⟨by have := HJ1.out; have := HK2.out; have := HJ11.out; omega⟩, by repeat (first | exact Drawn0.refl _ | apply Drawn0.step)⟩
              ·rw [if_neg c24] at H
               have c24b0 : decide (t107 ≤ 3) = false := decide_eq_false c24
               clear c24
               have H' := Aside0.mk H
               clear H
               go_wp2
               go_roundg kj11
               case measure => have := HJ1.out; have := HK2.out; have := HJ11.out; omega
               case rel => exact ⟨(x2_2), (false), (wrap64 (x28_2 + 1)), (by first | rfl | (simp; done) | (simp [*]; done)), (by first | rfl | (simp; done) | (simp [*]; done)), (by first | rfl | (simp; done) | (simp [*]; done)), H', ⟨by have := HJ1.out; have := HK2.out; have := HJ11.out; omega⟩, by repeat (first | exact Drawn0.refl _ | apply Drawn0.step)⟩
             ·rw [if_neg c23] at H
              have c23b0 : (t106 == 0) = false := beq_eq_false_iff_ne.mpr c23
              have c23b1 : (t106 != 0) = true := bne_iff_ne.mpr c23
              have H' := Aside0.mk H
              clear H
              go_wp2
              go_roundg kj11
              case measure => have := HJ1.out; have := HK2.out; have := HJ11.out; omega
              case rel => exact ⟨(x2_2), (false), (wrap64 (x28_2 + 1)), (by first | rfl | (simp; done) | (simp [*]; done)), (by first | rfl | (simp; done) | (simp [*]; done)), (by first | rfl | (simp; done) | (simp [*]; done)), H', ⟨by have := HJ1.out; have := HK2.out; have := HJ11.out; omega⟩, by repeat (first | exact Drawn0.refl _ | apply Drawn0.step)⟩
           ·rw [if_neg c20] at H
            have c20b0 : (t106 == 3) = false := beq_eq_false_iff_ne.mpr c20
            have c20b1 : (t106 != 3) = true := bne_iff_ne.mpr c20
            by_cases c26 : t106 = 0
            ·rw [if_pos c26] at H
             have c26b0 : (t106 == 0) = true := beq_iff_eq.mpr c26
             have c26b1 : (t106 != 0) = false := bne_eq_false_iff_eq.mpr c26
             clear c26
             by_cases c27 : t107 ≤ 3
             ·rw [if_pos c27] at H
              have c27b0 : decide (t107 ≤ 3) = true := decide_eq_true c27
              clear c27
              replace H := Option.bind_eq_some_iff.mp H
              obtain ⟨t111, A280, H⟩ := H
              (try dsimp only at H)
              have A28 := Aside0.mk A280
              clear A280
              have H' := Aside0.mk H
              clear H
              go_wp2_with (first | ((with_reducible refine gate_callee (f := 34) rfl ?_); refine goesL_ (some 82) rfl rfl Try.func34 (by kernel_rfl) rfl #[.string a0, .int .i64 (wrap64 ((wrap64 (4 + (wrap64 (8 * x28_2)))) + 4))] rfl (by (try simp only [List.map_toArray, List.map_cons, List.map_nil]); first | done | rfl) ?_; (with_reducible refine (cmap_four.calls a0 (wrap64 ((wrap64 (4 + (wrap64 (8 * x28_2)))) + 4)) t111 _ A28.out).mono ?_); rintro e w' ⟨rfl, ⟨nd, rfl⟩⟩; refine ⟨_, rfl, ?_⟩))
              go_roundg kj11
              case measure => have := HJ1.out; have := HK2.out; have := HJ11.out; omega
              case rel => exact ⟨(t111), (true), (wrap64 (x28_2 + 1)), (by first | rfl | (simp; done) | (simp [*]; done)), (by first | rfl | (simp; done) | (simp [*]; done)), (by first | rfl | (simp; done) | (simp [*]; done)), H', ⟨by have := HJ1.out; have := HK2.out; have := HJ11.out; omega⟩, by repeat (first | exact Drawn0.refl _ | apply Drawn0.step)⟩
             ·rw [if_neg c27] at H
              have c27b0 : decide (t107 ≤ 3) = false := decide_eq_false c27
              clear c27
              have H' := Aside0.mk H
              clear H
              go_wp2
              go_roundg kj11
              case measure => have := HJ1.out; have := HK2.out; have := HJ11.out; omega
              case rel => exact ⟨(x2_2), (false), (wrap64 (x28_2 + 1)), (by first | rfl | (simp; done) | (simp [*]; done)), (by first | rfl | (simp; done) | (simp [*]; done)), (by first | rfl | (simp; done) | (simp [*]; done)), H', ⟨by have := HJ1.out; have := HK2.out; have := HJ11.out; omega⟩, by repeat (first | exact Drawn0.refl _ | apply Drawn0.step)⟩
            ·rw [if_neg c26] at H
             have c26b0 : (t106 == 0) = false := beq_eq_false_iff_ne.mpr c26
             have c26b1 : (t106 != 0) = true := bne_iff_ne.mpr c26
             have H' := Aside0.mk H
             clear H
             go_wp2
             go_roundg kj11
             case measure => have := HJ1.out; have := HK2.out; have := HJ11.out; omega
             case rel => exact ⟨(x2_2), (false), (wrap64 (x28_2 + 1)), (by first | rfl | (simp; done) | (simp [*]; done)), (by first | rfl | (simp; done) | (simp [*]; done)), (by first | rfl | (simp; done) | (simp [*]; done)), H', ⟨by have := HJ1.out; have := HK2.out; have := HJ11.out; omega⟩, by repeat (first | exact Drawn0.refl _ | apply Drawn0.step)⟩
      ·rw [if_neg c9] at H
       have c9b0 : decide (x28_2 < t105) = false := decide_eq_false c9
       clear c9
       simp only [Option.some.injEq, Prod.mk.injEq] at H
       obtain ⟨rfl, rfl, rfl⟩ := H
       go_wp2
       go_ret3
       exact ⟨by first | rfl | (simp; done) | (simp [*]; done) | (((first | rw [pw_wdiv _ _ (by omega) (by omega)] | rw [pw_wdiv' _ _ (by omega) (by omega)] | rw [Go.IntWalk.wrap64_in _ (by omega)]); repeat (first | rw [pw_wdiv _ _ (by omega) (by omega)] | rw [pw_wdiv' _ _ (by omega) (by omega)] | rw [Go.IntWalk.wrap64_in _ (by omega)])); rfl), by repeat (first | exact Drawn0.refl _ | apply Drawn0.step)⟩

-- NOT PRINTED: function 20 (cmap_spans)

-- NOT PRINTED: function 21 (cmap_groups)

-- NOT PRINTED: function 22 (cmap_segments)

end Go.Proofs.Ytldcgkkbmnahiaa.Px
