-- Lean text written by this session's own program (wip/tools/myprint.py) for this claim
import Derived.Test.YtldcgkkbmnahiaaPxx0
namespace Go.Proofs.Ytldcgkkbmnahiaa.Px
open Go.RowKit Go.Proofs.YtldcgkkbmnahiaaW.PrintWords Go.Proofs.YtldcgkkbmnahiaaW.PrintLast Go.Proofs.YtldcgkkbmnahiaaW.PrintMore
attribute [local go_sem] pw_max2 pw_min2 max_two min_two max_three min_three max_four min_four   -- for this text's walks alone
set_option linter.unusedVariables false
set_option linter.unusedSimpArgs false

/-! ### colophonref11_Find: function 13 -/
mutual
def colophonref11_Find.l0 : Nat → List (S47) → Int → Int → Option (Int)
  | 0, _, _, _ => none
  | k + 1, x0, x1, x5 => if x5 < (x0.length : Int) then (if 0 ≤ x5 then (if ((rd_T47 x0 x5).f0) ≤ x1 then (colophonref11_Find.j1 k x0 x1 x5 (decide (x1 ≤ ((rd_T47 x0 x5).f1)))) else (colophonref11_Find.j1 k x0 x1 x5 false)) else (none)) else (some 0)
def colophonref11_Find.j1 : Nat → List (S47) → Int → Int → Bool → Option (Int)
  | 0, _, _, _, _ => none
  | k + 1, x0, x1, x5, x30 => if x30 = true then (if 0 ≤ x5 then (if x5 < (x0.length : Int) then (if ((rd_T47 x0 x5).f2) > 4095 then (some 0) else (if ((rd_T47 x0 x5).f2) < 0 then (colophonref11_Find.j2 k x0 x5 (IntKind.u64.wrap ((IntKind.u64.wrap (x1)) - (IntKind.u64.wrap ((rd_T47 x0 x5).f0)))) (IntKind.u64.wrap ((IntKind.u64.wrap (wrap64 (-(wrap64 (((rd_T47 x0 x5).f2) + 1))))) + 1))) else (colophonref11_Find.j2 k x0 x5 (IntKind.u64.wrap ((IntKind.u64.wrap (x1)) - (IntKind.u64.wrap ((rd_T47 x0 x5).f0)))) 0))) else (none)) else (none)) else (colophonref11_Find.l0 k x0 x1 (wrap64 (x5 + 1)))
def colophonref11_Find.j2 : Nat → List (S47) → Int → Int → Int → Option (Int)
  | 0, _, _, _, _ => none
  | k + 1, x0, x5, x6, x7 => if x6 < x7 then (colophonref11_Find.j3 k x0 x5 x6 x7 true) else (colophonref11_Find.j3 k x0 x5 x6 x7 (decide ((IntKind.u64.wrap (x6 - x7)) > 4095)))
def colophonref11_Find.j3 : Nat → List (S47) → Int → Int → Int → Bool → Option (Int)
  | 0, _, _, _, _, _ => none
  | k + 1, x0, x5, x6, x7, x69 => if x69 = true then (some 0) else (if 0 ≤ x5 then (if x5 < (x0.length : Int) then (if (wrap64 ((wrap64 (IntKind.u64.wrap (x6 - x7))) + (mx ((rd_T47 x0 x5).f2) 0))) < 1 then (some 0) else (if (wrap64 ((wrap64 (IntKind.u64.wrap (x6 - x7))) + (mx ((rd_T47 x0 x5).f2) 0))) > 4095 then (some 0) else (some (wrap64 ((wrap64 (IntKind.u64.wrap (x6 - x7))) + (mx ((rd_T47 x0 x5).f2) 0)))))) else (none)) else (none))
end
def colophonref11_Find.f (k : Nat) (l0 : List (S47)) (a1 : Int) : Option (Int) := colophonref11_Find.l0 k l0 a1 0
theorem colophonref11_Find.mono_l : ∀ k, (∀ y0 y1 y2, LeO (colophonref11_Find.l0 k y0 y1 y2) (colophonref11_Find.l0 (k + 1) y0 y1 y2)) ∧ (∀ y0 y1 y2 y3, LeO (colophonref11_Find.j1 k y0 y1 y2 y3) (colophonref11_Find.j1 (k + 1) y0 y1 y2 y3)) ∧ (∀ y0 y1 y2 y3, LeO (colophonref11_Find.j2 k y0 y1 y2 y3) (colophonref11_Find.j2 (k + 1) y0 y1 y2 y3)) ∧ (∀ y0 y1 y2 y3 y4, LeO (colophonref11_Find.j3 k y0 y1 y2 y3 y4) (colophonref11_Find.j3 (k + 1) y0 y1 y2 y3 y4))
  | 0 => ⟨fun _ _ _ r h => by simp [colophonref11_Find.l0] at h, fun _ _ _ _ r h => by simp [colophonref11_Find.j1] at h, fun _ _ _ _ r h => by simp [colophonref11_Find.j2] at h, fun _ _ _ _ _ r h => by simp [colophonref11_Find.j3] at h⟩
  | k + 1 => by
    obtain ⟨ih0, ih1, ih2, ih3⟩ := colophonref11_Find.mono_l k
    refine ⟨?_, ?_, ?_, ?_⟩
    · intro y0 y1 y2
      unfold colophonref11_Find.l0
      repeat' first
      | (with_reducible exact ih0 _ _ _)
      | (with_reducible exact ih1 _ _ _ _)
      | (with_reducible exact ih2 _ _ _ _)
      | (with_reducible exact ih3 _ _ _ _ _)
      | (with_reducible exact LeO.refl _)
      | (with_reducible exact LeO.none _)
      | (with_reducible refine LeO.ite ?_ ?_)
      | (with_reducible refine LeO.bind ?_ (fun _ => ?_))
      | exact ih0 _ _ _
      | exact ih1 _ _ _ _
      | exact ih2 _ _ _ _
      | exact ih3 _ _ _ _ _
      | exact LeO.none _
      | refine LeO.ite ?_ ?_
      | refine LeO.bind ?_ (fun _ => ?_)
    · intro y0 y1 y2 y3
      unfold colophonref11_Find.j1
      repeat' first
      | (with_reducible exact ih0 _ _ _)
      | (with_reducible exact ih1 _ _ _ _)
      | (with_reducible exact ih2 _ _ _ _)
      | (with_reducible exact ih3 _ _ _ _ _)
      | (with_reducible exact LeO.refl _)
      | (with_reducible exact LeO.none _)
      | (with_reducible refine LeO.ite ?_ ?_)
      | (with_reducible refine LeO.bind ?_ (fun _ => ?_))
      | exact ih0 _ _ _
      | exact ih1 _ _ _ _
      | exact ih2 _ _ _ _
      | exact ih3 _ _ _ _ _
      | exact LeO.none _
      | refine LeO.ite ?_ ?_
      | refine LeO.bind ?_ (fun _ => ?_)
    · intro y0 y1 y2 y3
      unfold colophonref11_Find.j2
      repeat' first
      | (with_reducible exact ih0 _ _ _)
      | (with_reducible exact ih1 _ _ _ _)
      | (with_reducible exact ih2 _ _ _ _)
      | (with_reducible exact ih3 _ _ _ _ _)
      | (with_reducible exact LeO.refl _)
      | (with_reducible exact LeO.none _)
      | (with_reducible refine LeO.ite ?_ ?_)
      | (with_reducible refine LeO.bind ?_ (fun _ => ?_))
      | exact ih0 _ _ _
      | exact ih1 _ _ _ _
      | exact ih2 _ _ _ _
      | exact ih3 _ _ _ _ _
      | exact LeO.none _
      | refine LeO.ite ?_ ?_
      | refine LeO.bind ?_ (fun _ => ?_)
    · intro y0 y1 y2 y3 y4
      unfold colophonref11_Find.j3
      repeat' first
      | (with_reducible exact ih0 _ _ _)
      | (with_reducible exact ih1 _ _ _ _)
      | (with_reducible exact ih2 _ _ _ _)
      | (with_reducible exact ih3 _ _ _ _ _)
      | (with_reducible exact LeO.refl _)
      | (with_reducible exact LeO.none _)
      | (with_reducible refine LeO.ite ?_ ?_)
      | (with_reducible refine LeO.bind ?_ (fun _ => ?_))
      | exact ih0 _ _ _
      | exact ih1 _ _ _ _
      | exact ih2 _ _ _ _
      | exact ih3 _ _ _ _ _
      | exact LeO.none _
      | refine LeO.ite ?_ ?_
      | refine LeO.bind ?_ (fun _ => ?_)
theorem colophonref11_Find.mono : ∀ a0 a1 k, LeO (colophonref11_Find.f k a0 a1) (colophonref11_Find.f (k + 1) a0 a1) := by
  intro a0 a1 k
  obtain ⟨ih0, ih1, ih2, ih3⟩ := colophonref11_Find.mono_l k
  unfold colophonref11_Find.f
  repeat' first
      | (with_reducible exact ih0 _ _ _)
      | (with_reducible exact ih1 _ _ _ _)
      | (with_reducible exact ih2 _ _ _ _)
      | (with_reducible exact ih3 _ _ _ _ _)
      | (with_reducible exact LeO.refl _)
      | (with_reducible exact LeO.none _)
      | (with_reducible refine LeO.ite ?_ ?_)
      | (with_reducible refine LeO.bind ?_ (fun _ => ?_))
      | exact ih0 _ _ _
      | exact ih1 _ _ _ _
      | exact ih2 _ _ _ _
      | exact ih3 _ _ _ _ _
      | exact LeO.none _
      | refine LeO.ite ?_ ?_
      | refine LeO.bind ?_ (fun _ => ?_)
set_option maxHeartbeats 8000000 in
set_option maxRecDepth 100000 in
theorem colophonref11_Find.calls (k : Nat) (A0 : Option Addr) (c0 : Nat) (l0 : List (S47)) (a1 : Int) (r : Int) (w : World) (hr0 : Kd.C k47 w A0 l0.length l0) (hc0 : l0.length ≤ c0) (h : colophonref11_Find.f k l0 a1 = some r) :
    Calls Try.prog 13 #[.slice A0 l0.length c0, .int .i64 a1] w fun e w' => e = .returned (.int .i64 r) ∧ Below w.heap.size w w' := by
  have HR0 := Aside0.mk hr0
  have HC0 := Aside0.mk hc0
  clear hr0 hc0
  have HB := Aside0.mk (Below.refl w.heap.size w)
  have H : (colophonref11_Find.l0 k l0 a1 0) = some r := h
  clear h
  have H' := Aside0.mk H
  clear H
  go_enter Try.func13, Try.ntmps13
  go_wp2
  go_loopg [5] k (fun kq v5 w' => ∃ (x5_1 : Int), v5 = .int .i64 x5_1 ∧ Aside0 (colophonref11_Find.l0 kq l0 a1 x5_1 = some r) ∧ Aside0 (kq ≤ k) ∧ Aside0 (Below w.heap.size w w'))
  case atStart => exact ⟨(0), (by first | rfl | (simp; done) | (simp [*]; done)), H', ⟨Nat.le_refl _⟩, ⟨by repeat (first | (with_reducible first | exact HB.out | apply below_alloc | apply pw_below_drewN | apply below_drew1) | exact HB.out)⟩⟩
  case round =>
    clear H'
    try clear c1
    try clear p2
    obtain ⟨x5_1, rfl, HA, HK1, HB⟩ := hrel
    cases gk with
    | zero => exact absurd HA.out (by simp [colophonref11_Find.l0])
    | succ k1 =>
      have H := HA.out
      clear HA
      simp only [colophonref11_Find.l0] at H
      by_cases c3 : x5_1 < (l0.length : Int)
      · rw [if_pos c3] at H
        have c3b0 : decide (x5_1 < (l0.length : Int)) = true := decide_eq_true c3
        clear c3
        have HC4 := Aside0.mk H
        clear H
        go_upto_region 4 with (fail)
        go_cut [30] (fun v30 wc => ∃ (kq : Nat) (x30_3 : Bool), v30 = .bool x30_3 ∧ Aside0 (colophonref11_Find.j1 kq l0 a1 x5_1 x30_3 = some r) ∧ Aside0 (kq ≤ k1) ∧ Aside0 (Below w.heap.size w wc))
        case first =>
          have H := HC4.out
          clear HC4
          by_cases c5 : 0 ≤ x5_1
          · rw [if_pos c5] at H
            have c5b0 : decide (0 ≤ x5_1) = true := decide_eq_true c5
            clear c5
            (first | rw [c5b0] | (simp only [i64_w, i32_w]; rw [c5b0]) | skip)
            by_cases c6 : ((rd_T47 l0 x5_1).f0) ≤ a1
            · rw [if_pos c6] at H
              have c6b0 : decide (((rd_T47 l0 x5_1).f0) ≤ a1) = true := decide_eq_true c6
              clear c6
              have H' := Aside0.mk H
              clear H
              have p302 : 0 ≤ (x5_1 : Int) := of_decide_eq_true (by first | (with_reducible assumption) | assumption)
              have q302 : x5_1 < (l0.length : Int) := of_decide_eq_true (by first | (with_reducible assumption) | assumption)
              obtain ⟨ad302, e302, hx302_0, hx302_1, hx302_2⟩ := at_T47 HR0.out x5_1 p302 q302
              cases e302
              replace hx302_0 := (HB.out.cell (World.block_lt_of_cell? w _ hx302_0)).trans hx302_0
              replace hx302_1 := (HB.out.cell (World.block_lt_of_cell? w _ hx302_1)).trans hx302_1
              replace hx302_2 := (HB.out.cell (World.block_lt_of_cell? w _ hx302_2)).trans hx302_2
              replace p302 := eq_true p302
              replace q302 := eq_true q302
              have p303 : 0 ≤ (x5_1 : Int) := of_decide_eq_true (by first | (with_reducible assumption) | assumption)
              have q303 : x5_1 < (l0.length : Int) := of_decide_eq_true (by first | (with_reducible assumption) | assumption)
              obtain ⟨ad303, e303, hx303_0, hx303_1, hx303_2⟩ := at_T47 HR0.out x5_1 p303 q303
              obtain rfl : ad302 = ad303 := (by injection e303)
              replace hx303_0 := (HB.out.cell (World.block_lt_of_cell? w _ hx303_0)).trans hx303_0
              replace hx303_1 := (HB.out.cell (World.block_lt_of_cell? w _ hx303_1)).trans hx303_1
              replace hx303_2 := (HB.out.cell (World.block_lt_of_cell? w _ hx303_2)).trans hx303_2
              replace p303 := eq_true p303
              replace q303 := eq_true q303
              go_wp2
              go_meet
              case rel => exact ⟨_, (decide (a1 ≤ ((rd_T47 l0 x5_1).f1))), (by first | rfl | (simp; done) | (simp [*]; done)), H', ⟨by have := HK1.out; first | omega | exact Nat.le_refl _⟩, ⟨by repeat (first | (with_reducible first | exact HB.out | apply below_alloc | apply pw_below_drewN | apply below_drew1) | exact HB.out)⟩⟩
            · rw [if_neg c6] at H
              have c6b0 : decide (((rd_T47 l0 x5_1).f0) ≤ a1) = false := decide_eq_false c6
              clear c6
              have H' := Aside0.mk H
              clear H
              have p302 : 0 ≤ (x5_1 : Int) := of_decide_eq_true (by first | (with_reducible assumption) | assumption)
              have q302 : x5_1 < (l0.length : Int) := of_decide_eq_true (by first | (with_reducible assumption) | assumption)
              obtain ⟨ad302, e302, hx302_0, hx302_1, hx302_2⟩ := at_T47 HR0.out x5_1 p302 q302
              cases e302
              replace hx302_0 := (HB.out.cell (World.block_lt_of_cell? w _ hx302_0)).trans hx302_0
              replace hx302_1 := (HB.out.cell (World.block_lt_of_cell? w _ hx302_1)).trans hx302_1
              replace hx302_2 := (HB.out.cell (World.block_lt_of_cell? w _ hx302_2)).trans hx302_2
              replace p302 := eq_true p302
              replace q302 := eq_true q302
              go_wp2
              go_meet
              case rel => exact ⟨_, (false), (by first | rfl | (simp; done) | (simp [*]; done)), H', ⟨by have := HK1.out; first | omega | exact Nat.le_refl _⟩, ⟨by repeat (first | (with_reducible first | exact HB.out | apply below_alloc | apply pw_below_drewN | apply below_drew1) | exact HB.out)⟩⟩
          · rw [if_neg c5] at H
            exact absurd H (by simp)
        case rest =>
          clear HC4
          try clear c1
          try clear p2
          try clear c3
          try clear c3b0
          try clear p3
          try clear q3
          try clear hx3
          try clear c5
          try clear c5b0
          try clear c6
          try clear c6b0
          try clear hx302_0
          try clear hx302_1
          try clear hx302_2
          try clear hx303_0
          try clear hx303_1
          try clear hx303_2
          try clear p2
          try clear p302
          try clear p303
          try clear q302
          try clear q303
          obtain ⟨kq, x30_3, rfl, HA, HJ3, HB⟩ := hcut
          cases kq with
          | zero => exact absurd HA.out (by simp [colophonref11_Find.j1])
          | succ kj3 =>
            have H := HA.out
            clear HA
            simp only [colophonref11_Find.j1] at H
            by_cases c7 : x30_3 = true
            · subst c7
              have H1 : (if 0 ≤ x5_1 then (if x5_1 < (l0.length : Int) then (if ((rd_T47 l0 x5_1).f2) > 4095 then (some 0) else (if ((rd_T47 l0 x5_1).f2) < 0 then (colophonref11_Find.j2 kj3 l0 x5_1 (IntKind.u64.wrap ((IntKind.u64.wrap (a1)) - (IntKind.u64.wrap ((rd_T47 l0 x5_1).f0)))) (IntKind.u64.wrap ((IntKind.u64.wrap (wrap64 (-(wrap64 (((rd_T47 l0 x5_1).f2) + 1))))) + 1))) else (colophonref11_Find.j2 kj3 l0 x5_1 (IntKind.u64.wrap ((IntKind.u64.wrap (a1)) - (IntKind.u64.wrap ((rd_T47 l0 x5_1).f0)))) 0))) else (none)) else (none)) = some r := by rw [if_pos rfl] at H; exact H
              clear H
              have H := H1
              clear H1
              by_cases c8 : 0 ≤ x5_1
              · rw [if_pos c8] at H
                have c8b0 : decide (0 ≤ x5_1) = true := decide_eq_true c8
                clear c8
                by_cases c9 : x5_1 < (l0.length : Int)
                · rw [if_pos c9] at H
                  have c9b0 : decide (x5_1 < (l0.length : Int)) = true := decide_eq_true c9
                  clear c9
                  by_cases c10 : ((rd_T47 l0 x5_1).f2) > 4095
                  · rw [if_pos c10] at H
                    have c10b0 : decide (4095 < ((rd_T47 l0 x5_1).f2)) = true := decide_eq_true c10
                    clear c10
                    obtain rfl := Option.some.inj H
                    have p304 : 0 ≤ (x5_1 : Int) := of_decide_eq_true (by first | (with_reducible assumption) | assumption)
                    have q304 : x5_1 < (l0.length : Int) := of_decide_eq_true (by first | (with_reducible assumption) | assumption)
                    obtain ⟨ad304, e304, hx304_0, hx304_1, hx304_2⟩ := at_T47 HR0.out x5_1 p304 q304
                    cases e304
                    replace hx304_0 := (HB.out.cell (World.block_lt_of_cell? w _ hx304_0)).trans hx304_0
                    replace hx304_1 := (HB.out.cell (World.block_lt_of_cell? w _ hx304_1)).trans hx304_1
                    replace hx304_2 := (HB.out.cell (World.block_lt_of_cell? w _ hx304_2)).trans hx304_2
                    replace p304 := eq_true p304
                    replace q304 := eq_true q304
                    have p305 : 0 ≤ (x5_1 : Int) := of_decide_eq_true (by first | (with_reducible assumption) | assumption)
                    have q305 : x5_1 < (l0.length : Int) := of_decide_eq_true (by first | (with_reducible assumption) | assumption)
                    obtain ⟨ad305, e305, hx305_0, hx305_1, hx305_2⟩ := at_T47 HR0.out x5_1 p305 q305
                    obtain rfl : ad304 = ad305 := (by injection e305)
                    replace hx305_0 := (HB.out.cell (World.block_lt_of_cell? w _ hx305_0)).trans hx305_0
                    replace hx305_1 := (HB.out.cell (World.block_lt_of_cell? w _ hx305_1)).trans hx305_1
                    replace hx305_2 := (HB.out.cell (World.block_lt_of_cell? w _ hx305_2)).trans hx305_2
                    replace p305 := eq_true p305
                    replace q305 := eq_true q305
                    go_wp2
                    go_ret
                    exact ⟨by first | rfl | (simp [errW_none, errW_some] <;> rfl) | (simp [*, errW_none, errW_some] <;> rfl) | (((first | rw [pw_wdiv _ _ (by omega) (by omega)] | rw [pw_wdiv' _ _ (by omega) (by omega)] | rw [Go.IntWalk.wrap64_in _ (by omega)]); repeat (first | rw [pw_wdiv _ _ (by omega) (by omega)] | rw [pw_wdiv' _ _ (by omega) (by omega)] | rw [Go.IntWalk.wrap64_in _ (by omega)])); rfl), by repeat (first | (with_reducible first | exact HB.out | apply below_alloc | apply pw_below_drewN | apply below_drew1) | exact HB.out)⟩
                  · rw [if_neg c10] at H
                    have c10b0 : decide (4095 < ((rd_T47 l0 x5_1).f2)) = false := decide_eq_false c10
                    clear c10
                    have HC11 := Aside0.mk H
                    clear H
                    have p304 : 0 ≤ (x5_1 : Int) := of_decide_eq_true (by first | (with_reducible assumption) | assumption)
                    have q304 : x5_1 < (l0.length : Int) := of_decide_eq_true (by first | (with_reducible assumption) | assumption)
                    obtain ⟨ad304, e304, hx304_0, hx304_1, hx304_2⟩ := at_T47 HR0.out x5_1 p304 q304
                    cases e304
                    replace hx304_0 := (HB.out.cell (World.block_lt_of_cell? w _ hx304_0)).trans hx304_0
                    replace hx304_1 := (HB.out.cell (World.block_lt_of_cell? w _ hx304_1)).trans hx304_1
                    replace hx304_2 := (HB.out.cell (World.block_lt_of_cell? w _ hx304_2)).trans hx304_2
                    replace p304 := eq_true p304
                    replace q304 := eq_true q304
                    have p305 : 0 ≤ (x5_1 : Int) := of_decide_eq_true (by first | (with_reducible assumption) | assumption)
                    have q305 : x5_1 < (l0.length : Int) := of_decide_eq_true (by first | (with_reducible assumption) | assumption)
                    obtain ⟨ad305, e305, hx305_0, hx305_1, hx305_2⟩ := at_T47 HR0.out x5_1 p305 q305
                    obtain rfl : ad304 = ad305 := (by injection e305)
                    replace hx305_0 := (HB.out.cell (World.block_lt_of_cell? w _ hx305_0)).trans hx305_0
                    replace hx305_1 := (HB.out.cell (World.block_lt_of_cell? w _ hx305_1)).trans hx305_1
                    replace hx305_2 := (HB.out.cell (World.block_lt_of_cell? w _ hx305_2)).trans hx305_2
                    replace p305 := eq_true p305
                    replace q305 := eq_true q305
                    have p306 : 0 ≤ (x5_1 : Int) := of_decide_eq_true (by first | (with_reducible assumption) | assumption)
                    have q306 : x5_1 < (l0.length : Int) := of_decide_eq_true (by first | (with_reducible assumption) | assumption)
                    obtain ⟨ad306, e306, hx306_0, hx306_1, hx306_2⟩ := at_T47 HR0.out x5_1 p306 q306
                    obtain rfl : ad304 = ad306 := (by injection e306)
                    replace hx306_0 := (HB.out.cell (World.block_lt_of_cell? w _ hx306_0)).trans hx306_0
                    replace hx306_1 := (HB.out.cell (World.block_lt_of_cell? w _ hx306_1)).trans hx306_1
                    replace hx306_2 := (HB.out.cell (World.block_lt_of_cell? w _ hx306_2)).trans hx306_2
                    replace p306 := eq_true p306
                    replace q306 := eq_true q306
                    go_upto_if 51 with (fail)
                    go_cut [7] (fun v7 wc => ∃ (kq : Nat) (x7_10 : Int), v7 = .int .u64 x7_10 ∧ Aside0 (colophonref11_Find.j2 kq l0 x5_1 (IntKind.u64.wrap ((IntKind.u64.wrap (a1)) - (IntKind.u64.wrap ((rd_T47 l0 x5_1).f0)))) x7_10 = some r) ∧ Aside0 (kq ≤ kj3) ∧ Aside0 (Below w.heap.size w wc))
                    case first =>
                      have H := HC11.out
                      clear HC11
                      by_cases c12 : ((rd_T47 l0 x5_1).f2) < 0
                      · rw [if_pos c12] at H
                        have c12b0 : decide (((rd_T47 l0 x5_1).f2) < 0) = true := decide_eq_true c12
                        clear c12
                        (first | rw [c12b0] | (simp only [i64_w, i32_w]; rw [c12b0]) | skip)
                        have H' := Aside0.mk H
                        clear H
                        have p307 : 0 ≤ (x5_1 : Int) := of_decide_eq_true (by first | (with_reducible assumption) | assumption)
                        have q307 : x5_1 < (l0.length : Int) := of_decide_eq_true (by first | (with_reducible assumption) | assumption)
                        obtain ⟨ad307, e307, hx307_0, hx307_1, hx307_2⟩ := at_T47 HR0.out x5_1 p307 q307
                        obtain rfl : ad304 = ad307 := (by injection e307)
                        replace hx307_0 := (HB.out.cell (World.block_lt_of_cell? w _ hx307_0)).trans hx307_0
                        replace hx307_1 := (HB.out.cell (World.block_lt_of_cell? w _ hx307_1)).trans hx307_1
                        replace hx307_2 := (HB.out.cell (World.block_lt_of_cell? w _ hx307_2)).trans hx307_2
                        replace p307 := eq_true p307
                        replace q307 := eq_true q307
                        go_wp2
                        go_meet
                        case rel => exact ⟨_, (IntKind.u64.wrap ((IntKind.u64.wrap (wrap64 (-(wrap64 (((rd_T47 l0 x5_1).f2) + 1))))) + 1)), (by first | rfl | (simp; done) | (simp [*]; done)), H', ⟨by have := HK1.out; have := HJ3.out; first | omega | exact Nat.le_refl _⟩, ⟨by repeat (first | (with_reducible first | exact HB.out | apply below_alloc | apply pw_below_drewN | apply below_drew1) | exact HB.out)⟩⟩
                      · rw [if_neg c12] at H
                        have c12b0 : decide (((rd_T47 l0 x5_1).f2) < 0) = false := decide_eq_false c12
                        clear c12
                        (first | rw [c12b0] | (simp only [i64_w, i32_w]; rw [c12b0]) | skip)
                        have H' := Aside0.mk H
                        clear H
                        go_wp2
                        go_meet
                        case rel => exact ⟨_, (0), (by first | rfl | (simp; done) | (simp [*]; done)), H', ⟨by have := HK1.out; have := HJ3.out; first | omega | exact Nat.le_refl _⟩, ⟨by repeat (first | (with_reducible first | exact HB.out | apply below_alloc | apply pw_below_drewN | apply below_drew1) | exact HB.out)⟩⟩
                    case rest =>
                      clear HC11
                      try clear c1
                      try clear p2
                      try clear c3
                      try clear c3b0
                      try clear p3
                      try clear q3
                      try clear hx3
                      try clear c5
                      try clear c5b0
                      try clear c6
                      try clear c6b0
                      try clear p6
                      try clear c7
                      try clear c8
                      try clear c8b0
                      try clear c9
                      try clear c9b0
                      try clear c10
                      try clear c10b0
                      try clear c12
                      try clear c12b0
                      try clear hx302_0
                      try clear hx302_1
                      try clear hx302_2
                      try clear hx303_0
                      try clear hx303_1
                      try clear hx303_2
                      try clear hx304_0
                      try clear hx304_1
                      try clear hx304_2
                      try clear hx305_0
                      try clear hx305_1
                      try clear hx305_2
                      try clear hx306_0
                      try clear hx306_1
                      try clear hx306_2
                      try clear hx307_0
                      try clear hx307_1
                      try clear hx307_2
                      try clear p2
                      try clear p3
                      try clear p302
                      try clear p303
                      try clear p304
                      try clear p305
                      try clear p306
                      try clear p307
                      try clear q3
                      try clear q302
                      try clear q303
                      try clear q304
                      try clear q305
                      try clear q306
                      try clear q307
                      obtain ⟨kq, x7_10, rfl, HA, HJ10, HB⟩ := hcut
                      cases kq with
                      | zero => exact absurd HA.out (by simp [colophonref11_Find.j2])
                      | succ kj10 =>
                        have H := HA.out
                        clear HA
                        simp only [colophonref11_Find.j2] at H
                        have HC13 := Aside0.mk H
                        clear H
                        go_upto_region 11 with (fail)
                        go_cut [69] (fun v69 wc => ∃ (kq : Nat) (x69_12 : Bool), v69 = .bool x69_12 ∧ Aside0 (colophonref11_Find.j3 kq l0 x5_1 (IntKind.u64.wrap ((IntKind.u64.wrap (a1)) - (IntKind.u64.wrap ((rd_T47 l0 x5_1).f0)))) x7_10 x69_12 = some r) ∧ Aside0 (kq ≤ kj10) ∧ Aside0 (Below w.heap.size w wc))
                        case first =>
                          have H := HC13.out
                          clear HC13
                          by_cases c14 : (IntKind.u64.wrap ((IntKind.u64.wrap (a1)) - (IntKind.u64.wrap ((rd_T47 l0 x5_1).f0)))) < x7_10
                          · rw [if_pos c14] at H
                            have c14b0 : decide ((IntKind.u64.wrap ((IntKind.u64.wrap (a1)) - (IntKind.u64.wrap ((rd_T47 l0 x5_1).f0)))) < x7_10) = true := decide_eq_true c14
                            clear c14
                            (first | rw [c14b0] | (simp only [i64_w, i32_w]; rw [c14b0]) | skip)
                            have H' := Aside0.mk H
                            clear H
                            go_wp2
                            go_meet
                            case rel => exact ⟨_, (true), (by first | rfl | (simp; done) | (simp [*]; done)), H', ⟨by have := HK1.out; have := HJ3.out; have := HJ10.out; first | omega | exact Nat.le_refl _⟩, ⟨by repeat (first | (with_reducible first | exact HB.out | apply below_alloc | apply pw_below_drewN | apply below_drew1) | exact HB.out)⟩⟩
                          · rw [if_neg c14] at H
                            have c14b0 : decide ((IntKind.u64.wrap ((IntKind.u64.wrap (a1)) - (IntKind.u64.wrap ((rd_T47 l0 x5_1).f0)))) < x7_10) = false := decide_eq_false c14
                            clear c14
                            (first | rw [c14b0] | (simp only [i64_w, i32_w]; rw [c14b0]) | skip)
                            have H' := Aside0.mk H
                            clear H
                            go_wp2
                            go_meet
                            case rel => exact ⟨_, (decide ((IntKind.u64.wrap ((IntKind.u64.wrap ((IntKind.u64.wrap (a1)) - (IntKind.u64.wrap ((rd_T47 l0 x5_1).f0)))) - x7_10)) > 4095)), (by first | rfl | (simp; done) | (simp [*]; done)), H', ⟨by have := HK1.out; have := HJ3.out; have := HJ10.out; first | omega | exact Nat.le_refl _⟩, ⟨by repeat (first | (with_reducible first | exact HB.out | apply below_alloc | apply pw_below_drewN | apply below_drew1) | exact HB.out)⟩⟩
                        case rest =>
                          clear HC13
                          try clear c1
                          try clear p2
                          try clear c3
                          try clear c3b0
                          try clear p3
                          try clear q3
                          try clear hx3
                          try clear c5
                          try clear c5b0
                          try clear c6
                          try clear c6b0
                          try clear p6
                          try clear c7
                          try clear c8
                          try clear c8b0
                          try clear c9
                          try clear c9b0
                          try clear c10
                          try clear c10b0
                          try clear c12
                          try clear c12b0
                          try clear c13
                          try clear c14
                          try clear c14b0
                          try clear hx302_0
                          try clear hx302_1
                          try clear hx302_2
                          try clear hx303_0
                          try clear hx303_1
                          try clear hx303_2
                          try clear hx304_0
                          try clear hx304_1
                          try clear hx304_2
                          try clear hx305_0
                          try clear hx305_1
                          try clear hx305_2
                          try clear hx306_0
                          try clear hx306_1
                          try clear hx306_2
                          try clear hx307_0
                          try clear hx307_1
                          try clear hx307_2
                          try clear p2
                          try clear p3
                          try clear p302
                          try clear p303
                          try clear p304
                          try clear p305
                          try clear p306
                          try clear p307
                          try clear p6
                          try clear q3
                          try clear q302
                          try clear q303
                          try clear q304
                          try clear q305
                          try clear q306
                          try clear q307
                          obtain ⟨kq, x69_12, rfl, HA, HJ12, HB⟩ := hcut
                          cases kq with
                          | zero => exact absurd HA.out (by simp [colophonref11_Find.j3])
                          | succ kj12 =>
                            have H := HA.out
                            clear HA
                            simp only [colophonref11_Find.j3] at H
                            by_cases c15 : x69_12 = true
                            · subst c15
                              have H1 : (some 0) = some r := by rw [if_pos rfl] at H; exact H
                              clear H
                              have H := H1
                              clear H1
                              obtain rfl := Option.some.inj H
                              go_wp2
                              go_ret
                              exact ⟨by first | rfl | (simp [errW_none, errW_some] <;> rfl) | (simp [*, errW_none, errW_some] <;> rfl) | (((first | rw [pw_wdiv _ _ (by omega) (by omega)] | rw [pw_wdiv' _ _ (by omega) (by omega)] | rw [Go.IntWalk.wrap64_in _ (by omega)]); repeat (first | rw [pw_wdiv _ _ (by omega) (by omega)] | rw [pw_wdiv' _ _ (by omega) (by omega)] | rw [Go.IntWalk.wrap64_in _ (by omega)])); rfl), by repeat (first | (with_reducible first | exact HB.out | apply below_alloc | apply pw_below_drewN | apply below_drew1) | exact HB.out)⟩
                            · replace c15 := Bool.eq_false_iff.mpr c15
                              subst c15
                              have H1 : (if 0 ≤ x5_1 then (if x5_1 < (l0.length : Int) then (if (wrap64 ((wrap64 (IntKind.u64.wrap ((IntKind.u64.wrap ((IntKind.u64.wrap (a1)) - (IntKind.u64.wrap ((rd_T47 l0 x5_1).f0)))) - x7_10))) + (mx ((rd_T47 l0 x5_1).f2) 0))) < 1 then (some 0) else (if (wrap64 ((wrap64 (IntKind.u64.wrap ((IntKind.u64.wrap ((IntKind.u64.wrap (a1)) - (IntKind.u64.wrap ((rd_T47 l0 x5_1).f0)))) - x7_10))) + (mx ((rd_T47 l0 x5_1).f2) 0))) > 4095 then (some 0) else (some (wrap64 ((wrap64 (IntKind.u64.wrap ((IntKind.u64.wrap ((IntKind.u64.wrap (a1)) - (IntKind.u64.wrap ((rd_T47 l0 x5_1).f0)))) - x7_10))) + (mx ((rd_T47 l0 x5_1).f2) 0)))))) else (none)) else (none)) = some r := by rw [if_neg (show ¬ (false = true) by decide)] at H; exact H
                              clear H
                              have H := H1
                              clear H1
                              by_cases c16 : 0 ≤ x5_1
                              · rw [if_pos c16] at H
                                have c16b0 : decide (0 ≤ x5_1) = true := decide_eq_true c16
                                clear c16
                                by_cases c17 : x5_1 < (l0.length : Int)
                                · rw [if_pos c17] at H
                                  have c17b0 : decide (x5_1 < (l0.length : Int)) = true := decide_eq_true c17
                                  clear c17
                                  obtain ⟨ji18, hji18⟩ : ∃ j_ : Int, (mx ((rd_T47 l0 x5_1).f2) 0) = j_ := ⟨_, rfl⟩
                                  replace H : (if (wrap64 ((wrap64 (IntKind.u64.wrap ((IntKind.u64.wrap ((IntKind.u64.wrap (a1)) - (IntKind.u64.wrap ((rd_T47 l0 x5_1).f0)))) - x7_10))) + (ji18))) < 1 then (some 0) else (if (wrap64 ((wrap64 (IntKind.u64.wrap ((IntKind.u64.wrap ((IntKind.u64.wrap (a1)) - (IntKind.u64.wrap ((rd_T47 l0 x5_1).f0)))) - x7_10))) + (ji18))) > 4095 then (some 0) else (some (wrap64 ((wrap64 (IntKind.u64.wrap ((IntKind.u64.wrap ((IntKind.u64.wrap (a1)) - (IntKind.u64.wrap ((rd_T47 l0 x5_1).f0)))) - x7_10))) + (ji18)))))) = some r := by first | (rw [hji18] at H; exact H) | (simp only [hji18] at H ⊢; exact H)
                                  (try (have hji18N : 0 ≤ ji18 := by (rw [← hji18]; unfold mx; (repeat' split) <;> omega)))
                                  (try (have hji18l : 0 ≤ ji18 := by (rw [← hji18]; unfold mx; (repeat' split) <;> omega)))
                                  by_cases c19 : (wrap64 ((wrap64 (IntKind.u64.wrap ((IntKind.u64.wrap ((IntKind.u64.wrap (a1)) - (IntKind.u64.wrap ((rd_T47 l0 x5_1).f0)))) - x7_10))) + (ji18))) < 1
                                  · rw [if_pos c19] at H
                                    have c19b0 : decide ((wrap64 ((wrap64 (IntKind.u64.wrap ((IntKind.u64.wrap ((IntKind.u64.wrap (a1)) - (IntKind.u64.wrap ((rd_T47 l0 x5_1).f0)))) - x7_10))) + (ji18))) < 1) = true := decide_eq_true c19
                                    (try (have c19b0w := c19b0; ((first | rw [pw_wdiv _ _ (by omega) (by omega)] at c19b0w | rw [pw_wdiv' _ _ (by omega) (by omega)] at c19b0w | rw [Go.IntWalk.wrap64_in _ (by omega)] at c19b0w); repeat (first | rw [pw_wdiv _ _ (by omega) (by omega)] at c19b0w | rw [pw_wdiv' _ _ (by omega) (by omega)] at c19b0w | rw [Go.IntWalk.wrap64_in _ (by omega)] at c19b0w))))
                                    clear c19
                                    obtain rfl := Option.some.inj H
                                    have p308 : 0 ≤ (x5_1 : Int) := of_decide_eq_true (by first | (with_reducible assumption) | assumption)
                                    have q308 : x5_1 < (l0.length : Int) := of_decide_eq_true (by first | (with_reducible assumption) | assumption)
                                    obtain ⟨ad308, e308, hx308_0, hx308_1, hx308_2⟩ := at_T47 HR0.out x5_1 p308 q308
                                    obtain rfl : ad304 = ad308 := (by injection e308)
                                    replace hx308_0 := (HB.out.cell (World.block_lt_of_cell? w _ hx308_0)).trans hx308_0
                                    replace hx308_1 := (HB.out.cell (World.block_lt_of_cell? w _ hx308_1)).trans hx308_1
                                    replace hx308_2 := (HB.out.cell (World.block_lt_of_cell? w _ hx308_2)).trans hx308_2
                                    replace p308 := eq_true p308
                                    replace q308 := eq_true q308
                                    go_wp2
                                    go_ret
                                    exact ⟨by first | rfl | (simp [errW_none, errW_some] <;> rfl) | (simp only [← hji18]; first | rfl | (simp [errW_none, errW_some] <;> rfl)) | (simp [*, errW_none, errW_some] <;> rfl) | (((first | rw [pw_wdiv _ _ (by omega) (by omega)] | rw [pw_wdiv' _ _ (by omega) (by omega)] | rw [Go.IntWalk.wrap64_in _ (by omega)]); repeat (first | rw [pw_wdiv _ _ (by omega) (by omega)] | rw [pw_wdiv' _ _ (by omega) (by omega)] | rw [Go.IntWalk.wrap64_in _ (by omega)])); rfl), by repeat (first | (with_reducible first | exact HB.out | apply below_alloc | apply pw_below_drewN | apply below_drew1) | exact HB.out)⟩
                                  · rw [if_neg c19] at H
                                    have c19b0 : decide ((wrap64 ((wrap64 (IntKind.u64.wrap ((IntKind.u64.wrap ((IntKind.u64.wrap (a1)) - (IntKind.u64.wrap ((rd_T47 l0 x5_1).f0)))) - x7_10))) + (ji18))) < 1) = false := decide_eq_false c19
                                    (try (have c19b0w := c19b0; ((first | rw [pw_wdiv _ _ (by omega) (by omega)] at c19b0w | rw [pw_wdiv' _ _ (by omega) (by omega)] at c19b0w | rw [Go.IntWalk.wrap64_in _ (by omega)] at c19b0w); repeat (first | rw [pw_wdiv _ _ (by omega) (by omega)] at c19b0w | rw [pw_wdiv' _ _ (by omega) (by omega)] at c19b0w | rw [Go.IntWalk.wrap64_in _ (by omega)] at c19b0w))))
                                    clear c19
                                    by_cases c20 : (wrap64 ((wrap64 (IntKind.u64.wrap ((IntKind.u64.wrap ((IntKind.u64.wrap (a1)) - (IntKind.u64.wrap ((rd_T47 l0 x5_1).f0)))) - x7_10))) + (ji18))) > 4095
                                    · rw [if_pos c20] at H
                                      have c20b0 : decide (4095 < (wrap64 ((wrap64 (IntKind.u64.wrap ((IntKind.u64.wrap ((IntKind.u64.wrap (a1)) - (IntKind.u64.wrap ((rd_T47 l0 x5_1).f0)))) - x7_10))) + (ji18)))) = true := decide_eq_true c20
                                      (try (have c20b0w := c20b0; ((first | rw [pw_wdiv _ _ (by omega) (by omega)] at c20b0w | rw [pw_wdiv' _ _ (by omega) (by omega)] at c20b0w | rw [Go.IntWalk.wrap64_in _ (by omega)] at c20b0w); repeat (first | rw [pw_wdiv _ _ (by omega) (by omega)] at c20b0w | rw [pw_wdiv' _ _ (by omega) (by omega)] at c20b0w | rw [Go.IntWalk.wrap64_in _ (by omega)] at c20b0w))))
                                      clear c20
                                      obtain rfl := Option.some.inj H
                                      have p308 : 0 ≤ (x5_1 : Int) := of_decide_eq_true (by first | (with_reducible assumption) | assumption)
                                      have q308 : x5_1 < (l0.length : Int) := of_decide_eq_true (by first | (with_reducible assumption) | assumption)
                                      obtain ⟨ad308, e308, hx308_0, hx308_1, hx308_2⟩ := at_T47 HR0.out x5_1 p308 q308
                                      obtain rfl : ad304 = ad308 := (by injection e308)
                                      replace hx308_0 := (HB.out.cell (World.block_lt_of_cell? w _ hx308_0)).trans hx308_0
                                      replace hx308_1 := (HB.out.cell (World.block_lt_of_cell? w _ hx308_1)).trans hx308_1
                                      replace hx308_2 := (HB.out.cell (World.block_lt_of_cell? w _ hx308_2)).trans hx308_2
                                      replace p308 := eq_true p308
                                      replace q308 := eq_true q308
                                      go_wp2
                                      go_ret
                                      exact ⟨by first | rfl | (simp [errW_none, errW_some] <;> rfl) | (simp only [← hji18]; first | rfl | (simp [errW_none, errW_some] <;> rfl)) | (simp [*, errW_none, errW_some] <;> rfl) | (((first | rw [pw_wdiv _ _ (by omega) (by omega)] | rw [pw_wdiv' _ _ (by omega) (by omega)] | rw [Go.IntWalk.wrap64_in _ (by omega)]); repeat (first | rw [pw_wdiv _ _ (by omega) (by omega)] | rw [pw_wdiv' _ _ (by omega) (by omega)] | rw [Go.IntWalk.wrap64_in _ (by omega)])); rfl), by repeat (first | (with_reducible first | exact HB.out | apply below_alloc | apply pw_below_drewN | apply below_drew1) | exact HB.out)⟩
                                    · rw [if_neg c20] at H
                                      have c20b0 : decide (4095 < (wrap64 ((wrap64 (IntKind.u64.wrap ((IntKind.u64.wrap ((IntKind.u64.wrap (a1)) - (IntKind.u64.wrap ((rd_T47 l0 x5_1).f0)))) - x7_10))) + (ji18)))) = false := decide_eq_false c20
                                      (try (have c20b0w := c20b0; ((first | rw [pw_wdiv _ _ (by omega) (by omega)] at c20b0w | rw [pw_wdiv' _ _ (by omega) (by omega)] at c20b0w | rw [Go.IntWalk.wrap64_in _ (by omega)] at c20b0w); repeat (first | rw [pw_wdiv _ _ (by omega) (by omega)] at c20b0w | rw [pw_wdiv' _ _ (by omega) (by omega)] at c20b0w | rw [Go.IntWalk.wrap64_in _ (by omega)] at c20b0w))))
                                      clear c20
                                      obtain rfl := Option.some.inj H
                                      have p308 : 0 ≤ (x5_1 : Int) := of_decide_eq_true (by first | (with_reducible assumption) | assumption)
                                      have q308 : x5_1 < (l0.length : Int) := of_decide_eq_true (by first | (with_reducible assumption) | assumption)
                                      obtain ⟨ad308, e308, hx308_0, hx308_1, hx308_2⟩ := at_T47 HR0.out x5_1 p308 q308
                                      obtain rfl : ad304 = ad308 := (by injection e308)
                                      replace hx308_0 := (HB.out.cell (World.block_lt_of_cell? w _ hx308_0)).trans hx308_0
                                      replace hx308_1 := (HB.out.cell (World.block_lt_of_cell? w _ hx308_1)).trans hx308_1
                                      replace hx308_2 := (HB.out.cell (World.block_lt_of_cell? w _ hx308_2)).trans hx308_2
                                      replace p308 := eq_true p308
                                      replace q308 := eq_true q308
                                      go_wp2
                                      go_ret
                                      exact ⟨by first | rfl | (simp [errW_none, errW_some] <;> rfl) | (simp only [← hji18]; first | rfl | (simp [errW_none, errW_some] <;> rfl)) | (simp [*, errW_none, errW_some] <;> rfl) | (((first | rw [pw_wdiv _ _ (by omega) (by omega)] | rw [pw_wdiv' _ _ (by omega) (by omega)] | rw [Go.IntWalk.wrap64_in _ (by omega)]); repeat (first | rw [pw_wdiv _ _ (by omega) (by omega)] | rw [pw_wdiv' _ _ (by omega) (by omega)] | rw [Go.IntWalk.wrap64_in _ (by omega)])); rfl), by repeat (first | (with_reducible first | exact HB.out | apply below_alloc | apply pw_below_drewN | apply below_drew1) | exact HB.out)⟩
                                · rw [if_neg c17] at H
                                  exact absurd H (by simp)
                              · rw [if_neg c16] at H
                                exact absurd H (by simp)
                · rw [if_neg c9] at H
                  exact absurd H (by simp)
              · rw [if_neg c8] at H
                exact absurd H (by simp)
            · replace c7 := Bool.eq_false_iff.mpr c7
              subst c7
              have H1 : (colophonref11_Find.l0 kj3 l0 a1 (wrap64 (x5_1 + 1))) = some r := by rw [if_neg (show ¬ (false = true) by decide)] at H; exact H
              clear H
              have H := H1
              clear H1
              have H' := Aside0.mk H
              clear H
              go_wp2
              go_roundg kj3
              case measure => have := HK1.out; have := HJ3.out; omega
              case rel => exact ⟨(wrap64 (x5_1 + 1)), (by first | rfl | (simp; done) | (simp [*]; done)), H', ⟨by have := HK1.out; have := HJ3.out; omega⟩, ⟨by repeat (first | (with_reducible first | exact HB.out | apply below_alloc | apply pw_below_drewN | apply below_drew1) | exact HB.out)⟩⟩
      · rw [if_neg c3] at H
        have c3b0 : decide (x5_1 < (l0.length : Int)) = false := decide_eq_false c3
        clear c3
        obtain rfl := Option.some.inj H
        go_wp2
        go_ret
        exact ⟨by first | rfl | (simp [errW_none, errW_some] <;> rfl) | (simp [*, errW_none, errW_some] <;> rfl) | (((first | rw [pw_wdiv _ _ (by omega) (by omega)] | rw [pw_wdiv' _ _ (by omega) (by omega)] | rw [Go.IntWalk.wrap64_in _ (by omega)]); repeat (first | rw [pw_wdiv _ _ (by omega) (by omega)] | rw [pw_wdiv' _ _ (by omega) (by omega)] | rw [Go.IntWalk.wrap64_in _ (by omega)])); rfl), by repeat (first | (with_reducible first | exact HB.out | apply below_alloc | apply pw_below_drewN | apply below_drew1) | exact HB.out)⟩

end Go.Proofs.Ytldcgkkbmnahiaa.Px
