-- Lean text written by this session's own program (wip/tools/myprint.py) for this claim
import Derived.Test.YtldcgkkbmnahiaaPxx0
import Derived.Test.YtldcgkkbmnahiaaPxx16
namespace Go.Proofs.Ytldcgkkbmnahiaa.Px
open Go.RowKit Go.Proofs.YtldcgkkbmnahiaaW.PrintWords Go.Proofs.YtldcgkkbmnahiaaW.PrintLast Go.Proofs.YtldcgkkbmnahiaaW.PrintMore
attribute [local go_sem] pw_max2 pw_min2 max_two min_two max_three min_three max_four min_four   -- for this text's walks alone
set_option linter.unusedVariables false
set_option linter.unusedSimpArgs false

/-! ### colophonref08_Search: function 32 -/
def colophonref08_Search.f (k : Nat) (a0 : Int) (a1 : Int) : Option (ByteArray) := (colophonref08_power.f k a0).bind fun bt336 => ((colophonref08_Two.f (wrap64 (a1 * bt336.1))).bind fun t338 => ((colophonref08_Two.f bt336.2).bind fun t339 => (if t338.size + t339.size ≤ 9223372036854775807 then ((colophonref08_Two.f (wrap64 (a1 * (wrap64 (a0 - bt336.1))))).bind fun t340 => (if (t338 ++ t339).size + t340.size ≤ 9223372036854775807 then (some ((t338 ++ t339) ++ t340)) else (none))) else (none))))
theorem colophonref08_Search.mono : ∀ a0 a1 k, LeO (colophonref08_Search.f k a0 a1) (colophonref08_Search.f (k + 1) a0 a1) := by
 intro a0 a1 k
 unfold colophonref08_Search.f
 repeat' first
   | (with_reducible exact colophonref08_power.mono _ _)
   | (with_reducible exact LeO.refl _)
   | (with_reducible exact LeO.none _)
   | (with_reducible refine LeO.ite ?_ ?_)
   | (with_reducible refine LeO.bind ?_ (fun _ => ?_))
   | exact colophonref08_power.mono _ _
   | exact LeO.none _
   | refine LeO.ite ?_ ?_
   | refine LeO.bind ?_ (fun _ => ?_)
set_option maxHeartbeats 8000000 in
set_option maxRecDepth 100000 in
theorem colophonref08_Search.calls (k : Nat) (a0 : Int) (a1 : Int) (r : ByteArray) (w : World) (h : colophonref08_Search.f k a0 a1 = some r) :
  Calls Try.prog 32 #[.int .i64 a0, .int .i64 a1] w fun e w' => e = .returned (.string r) ∧ Below w.heap.size w w' := by
 have HB := Aside0.mk (Below.refl w.heap.size w)
 have H : ((colophonref08_power.f k a0).bind fun bt336 => ((colophonref08_Two.f (wrap64 (a1 * bt336.1))).bind fun t338 => ((colophonref08_Two.f bt336.2).bind fun t339 => (if t338.size + t339.size ≤ 9223372036854775807 then ((colophonref08_Two.f (wrap64 (a1 * (wrap64 (a0 - bt336.1))))).bind fun t340 => (if (t338 ++ t339).size + t340.size ≤ 9223372036854775807 then (some ((t338 ++ t339) ++ t340)) else (none))) else (none))))) = some r := h
 clear h
 replace H := Option.bind_eq_some_iff.mp H
 obtain ⟨⟨t336, t337⟩, A30, H⟩ := H
 (try dsimp only at H)
 have A3 := Aside0.mk A30
 clear A30
 replace H := Option.bind_eq_some_iff.mp H
 obtain ⟨t338, A40, H⟩ := H
 (try dsimp only at H)
 have A4 := Aside0.mk A40
 clear A40
 replace H := Option.bind_eq_some_iff.mp H
 obtain ⟨t339, A50, H⟩ := H
 (try dsimp only at H)
 have A5 := Aside0.mk A50
 clear A50
 by_cases c6 : t338.size + t339.size ≤ 9223372036854775807
 ·rw [if_pos c6] at H
  have c6b0 := eq_true c6
  have c6b1 : decide (t338.size + t339.size ≤ 9223372036854775807) = true := decide_eq_true c6
  try have c6b2 : (9223372036854775807 < t338.size + t339.size) = False := eq_false (Nat.not_lt.2 c6)
  replace H := Option.bind_eq_some_iff.mp H
  obtain ⟨t340, A70, H⟩ := H
  (try dsimp only at H)
  have A7 := Aside0.mk A70
  clear A70
  by_cases c8 : (t338 ++ t339).size + t340.size ≤ 9223372036854775807
  ·rw [if_pos c8] at H
   have c8b0 := eq_true c8
   have c8b1 : decide ((t338 ++ t339).size + t340.size ≤ 9223372036854775807) = true := decide_eq_true c8
   try (have c8b3 : (9223372036854775807 < t338.size + t339.size + t340.size) = False := eq_false (by have h_ := c8; simp only [ByteArray.size_append] at h_; exact Nat.not_lt.2 h_))
   try have c8b2 : (9223372036854775807 < (t338 ++ t339).size + t340.size) = False := eq_false (Nat.not_lt.2 c8)
   obtain rfl := Option.some.inj H
   go_enter Try.func32, Try.ntmps32
   go_wp2_with (first | ((with_reducible refine gate_callee (f := 41) rfl ?_); refine goesL_ (some 9) rfl rfl Try.func41 (by kernel_rfl) rfl #[.int .i64 a0] rfl (by (try simp only [List.map_toArray, List.map_cons, List.map_nil]); first | done | rfl) ?_; (with_reducible refine (colophonref08_power.calls k a0 t336 t337 _ A3.out).mono ?_); rintro e w' ⟨rfl, ⟨nd, rfl⟩⟩; refine ⟨_, rfl, ?_⟩) | ((with_reducible refine gate_callee (f := 40) rfl ?_); refine goesL_ (some 15) rfl rfl Try.func40 (by kernel_rfl) rfl #[.int .i64 (wrap64 (a1 * t336))] rfl (by (try simp only [List.map_toArray, List.map_cons, List.map_nil]); first | done | rfl) ?_; (with_reducible refine (colophonref08_Two.calls (wrap64 (a1 * t336)) t338 _ A4.out).mono ?_); rintro e w9 ⟨rfl, hb⟩; refine ⟨_, rfl, ?_⟩; have n0_ := Aside0.mk (below_step (by repeat (first | (with_reducible first | exact HB.out | apply below_alloc | apply pw_below_drewN | apply below_drew1) | exact HB.out)) hb); clear HB; have HB := n0_; clear n0_; (try clear hb)) | ((with_reducible refine gate_callee (f := 40) rfl ?_); refine goesL_ (some 17) rfl rfl Try.func40 (by kernel_rfl) rfl #[.int .i64 t337] rfl (by (try simp only [List.map_toArray, List.map_cons, List.map_nil]); first | done | rfl) ?_; (with_reducible refine (colophonref08_Two.calls t337 t339 _ A5.out).mono ?_); rintro e w10 ⟨rfl, hb⟩; refine ⟨_, rfl, ?_⟩; have n0_ := Aside0.mk (below_step (by repeat (first | (with_reducible first | exact HB.out | apply below_alloc | apply pw_below_drewN | apply below_drew1) | exact HB.out)) hb); clear HB; have HB := n0_; clear n0_; (try clear hb)) | ((with_reducible refine gate_callee (f := 40) rfl ?_); refine goesL_ (some 24) rfl rfl Try.func40 (by kernel_rfl) rfl #[.int .i64 (wrap64 (a1 * (wrap64 (a0 - t336))))] rfl (by (try simp only [List.map_toArray, List.map_cons, List.map_nil]); first | done | rfl) ?_; (with_reducible refine (colophonref08_Two.calls (wrap64 (a1 * (wrap64 (a0 - t336)))) t340 _ A7.out).mono ?_); rintro e w11 ⟨rfl, hb⟩; refine ⟨_, rfl, ?_⟩; have n0_ := Aside0.mk (below_step (by repeat (first | (with_reducible first | exact HB.out | apply below_alloc | apply pw_below_drewN | apply below_drew1) | exact HB.out)) hb); clear HB; have HB := n0_; clear n0_; (try clear hb)))
   go_ret
   exact ⟨by first | rfl | (simp [errW_none, errW_some] <;> rfl) | (simp [*, errW_none, errW_some] <;> rfl) | (((first | rw [pw_wdiv _ _ (by omega) (by omega)] | rw [pw_wdiv' _ _ (by omega) (by omega)] | rw [Go.IntWalk.wrap64_in _ (by omega)]); repeat (first | rw [pw_wdiv _ _ (by omega) (by omega)] | rw [pw_wdiv' _ _ (by omega) (by omega)] | rw [Go.IntWalk.wrap64_in _ (by omega)])); rfl), by repeat (first | (with_reducible first | exact HB.out | apply below_alloc | apply pw_below_drewN | apply below_drew1) | exact HB.out)⟩
  ·rw [if_neg c8] at H
   exact absurd H (by simp)
 ·rw [if_neg c6] at H
  exact absurd H (by simp)

end Go.Proofs.Ytldcgkkbmnahiaa.Px
