-- Lean text written by this session's own program (wip/tools/myprint.py) for this claim
import Derived.Test.YtldcgkkbmnahiaaPxx0
namespace Go.Proofs.Ytldcgkkbmnahiaa.Px
open Go.RowKit Go.Proofs.YtldcgkkbmnahiaaW.PrintWords Go.Proofs.YtldcgkkbmnahiaaW.PrintLast Go.Proofs.YtldcgkkbmnahiaaW.PrintMore
attribute [local go_sem] pw_max2 pw_min2 max_two min_two max_three min_three max_four min_four   -- for this text's walks alone
set_option linter.unusedVariables false
set_option linter.unusedSimpArgs false

/-! ### colophonref11_Good: function 15 -/
mutual
def colophonref11_Good.l0 : Nat → List (S47) → Int → Int → Option (Bool)
 | 0, _, _, _ => none
 | k + 1, x0, x1, x5 => if x5 < (x0.length : Int) then (if 0 ≤ x5 then (if ((rd_T47 x0 x5).f0) > ((rd_T47 x0 x5).f1) then (colophonref11_Good.j1 k x0 x1 x5 true ((rd_T47 x0 x5).f0) ((rd_T47 x0 x5).f1) ((rd_T47 x0 x5).f2)) else (if ((rd_T47 x0 x5).f0) < 0 then (colophonref11_Good.j1 k x0 x1 x5 true ((rd_T47 x0 x5).f0) ((rd_T47 x0 x5).f1) ((rd_T47 x0 x5).f2)) else (if ((rd_T47 x0 x5).f1) > 1114111 then (colophonref11_Good.j1 k x0 x1 x5 true ((rd_T47 x0 x5).f0) ((rd_T47 x0 x5).f1) ((rd_T47 x0 x5).f2)) else (if ((rd_T47 x0 x5).f0) ≤ 57343 then (if ((rd_T47 x0 x5).f1) ≥ 55296 then (colophonref11_Good.j1 k x0 x1 x5 true ((rd_T47 x0 x5).f0) ((rd_T47 x0 x5).f1) ((rd_T47 x0 x5).f2)) else (if ((rd_T47 x0 x5).f2) < 1 then (colophonref11_Good.j1 k x0 x1 x5 true ((rd_T47 x0 x5).f0) ((rd_T47 x0 x5).f1) ((rd_T47 x0 x5).f2)) else (if ((rd_T47 x0 x5).f2) ≥ x1 then (colophonref11_Good.j1 k x0 x1 x5 true ((rd_T47 x0 x5).f0) ((rd_T47 x0 x5).f1) ((rd_T47 x0 x5).f2)) else (colophonref11_Good.j1 k x0 x1 x5 (decide ((wrap64 (((rd_T47 x0 x5).f1) - ((rd_T47 x0 x5).f0))) ≥ (wrap64 (x1 - ((rd_T47 x0 x5).f2))))) ((rd_T47 x0 x5).f0) ((rd_T47 x0 x5).f1) ((rd_T47 x0 x5).f2))))) else (if ((rd_T47 x0 x5).f2) < 1 then (colophonref11_Good.j1 k x0 x1 x5 true ((rd_T47 x0 x5).f0) ((rd_T47 x0 x5).f1) ((rd_T47 x0 x5).f2)) else (if ((rd_T47 x0 x5).f2) ≥ x1 then (colophonref11_Good.j1 k x0 x1 x5 true ((rd_T47 x0 x5).f0) ((rd_T47 x0 x5).f1) ((rd_T47 x0 x5).f2)) else (colophonref11_Good.j1 k x0 x1 x5 (decide ((wrap64 (((rd_T47 x0 x5).f1) - ((rd_T47 x0 x5).f0))) ≥ (wrap64 (x1 - ((rd_T47 x0 x5).f2))))) ((rd_T47 x0 x5).f0) ((rd_T47 x0 x5).f1) ((rd_T47 x0 x5).f2)))))))) else (none)) else (some true)
def colophonref11_Good.j1 : Nat → List (S47) → Int → Int → Bool → Int → Int → Int → Option (Bool)
 | 0, _, _, _, _, _, _, _ => none
 | k + 1, x0, x1, x5, x67, x311000, x311001, x311002 => if x67 = true then (some false) else (if x5 > 0 then (if 0 ≤ (wrap64 (x5 - 1)) then (if (wrap64 (x5 - 1)) < (x0.length : Int) then (if x311000 ≤ ((rd_T47 x0 (wrap64 (x5 - 1))).f1) then (some false) else (if x311000 = (wrap64 (((rd_T47 x0 (wrap64 (x5 - 1))).f1) + 1)) then (if x311002 = (wrap64 ((wrap64 ((wrap64 (((rd_T47 x0 (wrap64 (x5 - 1))).f2) + ((rd_T47 x0 (wrap64 (x5 - 1))).f1))) - ((rd_T47 x0 (wrap64 (x5 - 1))).f0))) + 1)) then (some false) else (colophonref11_Good.l0 k x0 x1 (wrap64 (x5 + 1)))) else (colophonref11_Good.l0 k x0 x1 (wrap64 (x5 + 1))))) else (none)) else (none)) else (colophonref11_Good.l0 k x0 x1 (wrap64 (x5 + 1))))
end
def colophonref11_Good.f (k : Nat) (l0 : List (S47)) (a1 : Int) : Option (Bool) := if (l0.length : Int) > 4096 then (some false) else (colophonref11_Good.l0 k l0 a1 0)
theorem colophonref11_Good.mono_l : ∀ k, (∀ y0 y1 y2, LeO (colophonref11_Good.l0 k y0 y1 y2) (colophonref11_Good.l0 (k + 1) y0 y1 y2)) ∧ (∀ y0 y1 y2 y3 y4 y5 y6, LeO (colophonref11_Good.j1 k y0 y1 y2 y3 y4 y5 y6) (colophonref11_Good.j1 (k + 1) y0 y1 y2 y3 y4 y5 y6))
 | 0 => ⟨fun _ _ _ r h => by simp [colophonref11_Good.l0] at h, fun _ _ _ _ _ _ _ r h => by simp [colophonref11_Good.j1] at h⟩
 | k + 1 => by
  obtain ⟨ih0, ih1⟩ := colophonref11_Good.mono_l k
  refine ⟨?_, ?_⟩
  ·intro y0 y1 y2
   unfold colophonref11_Good.l0
   repeat' first
   | (with_reducible exact ih0 _ _ _)
   | (with_reducible exact ih1 _ _ _ _ _ _ _)
   | (with_reducible exact LeO.refl _)
   | (with_reducible exact LeO.none _)
   | (with_reducible refine LeO.ite ?_ ?_)
   | (with_reducible refine LeO.bind ?_ (fun _ => ?_))
   | exact ih0 _ _ _
   | exact ih1 _ _ _ _ _ _ _
   | exact LeO.none _
   | refine LeO.ite ?_ ?_
   | refine LeO.bind ?_ (fun _ => ?_)
  ·intro y0 y1 y2 y3 y4 y5 y6
   unfold colophonref11_Good.j1
   repeat' first
   | (with_reducible exact ih0 _ _ _)
   | (with_reducible exact ih1 _ _ _ _ _ _ _)
   | (with_reducible exact LeO.refl _)
   | (with_reducible exact LeO.none _)
   | (with_reducible refine LeO.ite ?_ ?_)
   | (with_reducible refine LeO.bind ?_ (fun _ => ?_))
   | exact ih0 _ _ _
   | exact ih1 _ _ _ _ _ _ _
   | exact LeO.none _
   | refine LeO.ite ?_ ?_
   | refine LeO.bind ?_ (fun _ => ?_)
theorem colophonref11_Good.mono : ∀ a0 a1 k, LeO (colophonref11_Good.f k a0 a1) (colophonref11_Good.f (k + 1) a0 a1) := by
 intro a0 a1 k
 obtain ⟨ih0, ih1⟩ := colophonref11_Good.mono_l k
 unfold colophonref11_Good.f
 repeat' first
   | (with_reducible exact ih0 _ _ _)
   | (with_reducible exact ih1 _ _ _ _ _ _ _)
   | (with_reducible exact LeO.refl _)
   | (with_reducible exact LeO.none _)
   | (with_reducible refine LeO.ite ?_ ?_)
   | (with_reducible refine LeO.bind ?_ (fun _ => ?_))
   | exact ih0 _ _ _
   | exact ih1 _ _ _ _ _ _ _
   | exact LeO.none _
   | refine LeO.ite ?_ ?_
   | refine LeO.bind ?_ (fun _ => ?_)
set_option maxHeartbeats 8000000 in
set_option maxRecDepth 100000 in
theorem colophonref11_Good.calls (k : Nat) (A0 : Option Addr) (c0 : Nat) (l0 : List (S47)) (a1 : Int) (r : Bool) (w : World) (hr0 : Kd.C k47 w A0 l0.length l0) (hc0 : l0.length ≤ c0) (h : colophonref11_Good.f k l0 a1 = some r) :
  Calls Try.prog 15 #[.slice A0 l0.length c0, .int .i64 a1] w fun e w' => e = .returned (.bool r) ∧ Below w.heap.size w w' := by
 have hu47 := Try.underlying47
 have HR0 := Aside0.mk hr0
 have HC0 := Aside0.mk hc0
 clear hr0 hc0
 have HB := Aside0.mk (Below.refl w.heap.size w)
 have H : (if (l0.length : Int) > 4096 then (some false) else (colophonref11_Good.l0 k l0 a1 0)) = some r := h
 clear h
 by_cases c3 : (l0.length : Int) > 4096
 ·rw [if_pos c3] at H
  have c3b0 : decide (4096 < (l0.length : Int)) = true := decide_eq_true c3
  have c3b1 : decide (4096 < l0.length) = true := decide_eq_true (by omega)
  clear c3
  obtain rfl := Option.some.inj H
  go_enter Try.func15, Try.ntmps15
  go_wp2
  repeat (go_quiet (fail); try go_wp2)
  go_ret
  exact ⟨by first | rfl | (simp [errW_none, errW_some] <;> rfl) | (simp [*, errW_none, errW_some] <;> rfl) | (((first | rw [pw_wdiv _ _ (by omega) (by omega)] | rw [pw_wdiv' _ _ (by omega) (by omega)] | rw [Go.IntWalk.wrap64_in _ (by omega)]); repeat (first | rw [pw_wdiv _ _ (by omega) (by omega)] | rw [pw_wdiv' _ _ (by omega) (by omega)] | rw [Go.IntWalk.wrap64_in _ (by omega)])); rfl), by repeat (first | (with_reducible first | exact HB.out | apply below_alloc | apply pw_below_drewN | apply below_drew1) | exact HB.out)⟩
 ·rw [if_neg c3] at H
  have c3b0 : decide (4096 < (l0.length : Int)) = false := decide_eq_false c3
  have c3b1 : decide (4096 < l0.length) = false := decide_eq_false (by omega)
  clear c3
  have H' := Aside0.mk H
  clear H
  go_enter Try.func15, Try.ntmps15
  go_wp2
  repeat (go_quiet (fail); try go_wp2)
  go_loopg [5] k (fun kq v5 w' => ∃ (x5_1 : Int), v5 = .int .i64 x5_1 ∧ Aside0 (colophonref11_Good.l0 kq l0 a1 x5_1 = some r) ∧ Aside0 (kq ≤ k) ∧ Aside0 (Below w.heap.size w w'))
  case atStart => exact ⟨(0), (by first | rfl | (simp; done) | (simp [*]; done)), H', ⟨Nat.le_refl _⟩, ⟨by repeat (first | (with_reducible first | exact HB.out | apply below_alloc | apply pw_below_drewN | apply below_drew1) | exact HB.out)⟩⟩
  case round =>
   clear H'
   try clear c1
   try clear p2
   try clear c3
   try clear c3b0
   try clear c3b1
   obtain ⟨x5_1, rfl, HA, HK1, HB⟩ := hrel
   cases gk with
   | zero => exact absurd HA.out (by simp [colophonref11_Good.l0])
   | succ k1 =>
    have H := HA.out
    clear HA
    simp only [colophonref11_Good.l0] at H
    by_cases c4 : x5_1 < (l0.length : Int)
    ·rw [if_pos c4] at H
     have c4b0 : decide (x5_1 < (l0.length : Int)) = true := decide_eq_true c4
     clear c4
     by_cases c5 : 0 ≤ x5_1
     ·rw [if_pos c5] at H
      have c5b0 : decide (0 ≤ x5_1) = true := decide_eq_true c5
      clear c5
      have HC6 := Aside0.mk H
      clear H
      have p309 : 0 ≤ (x5_1 : Int) := of_decide_eq_true (by first | (with_reducible assumption) | assumption)
      have q309 : x5_1 < (l0.length : Int) := of_decide_eq_true (by first | (with_reducible assumption) | assumption)
      obtain ⟨ad309, e309, hx309_0, hx309_1, hx309_2⟩ := at_T47 HR0.out x5_1 p309 q309
      cases e309
      replace hx309_0 := (HB.out.cell (World.block_lt_of_cell? w _ hx309_0)).trans hx309_0
      replace hx309_1 := (HB.out.cell (World.block_lt_of_cell? w _ hx309_1)).trans hx309_1
      replace hx309_2 := (HB.out.cell (World.block_lt_of_cell? w _ hx309_2)).trans hx309_2
      replace p309 := eq_true p309
      replace q309 := eq_true q309
      go_upto_region 7 with (first | ((with_reducible refine gate_dst (N := 6) rfl ?_); refine box_event ?hg (N := 6) ?hd (cs := #[.int .i64 0, .int .i64 0, .int .i64 0]) (t := 47) ?hr ?_; (case hd => rfl); (case hg => rfl); (case hr => first | (go_simp; done) | (go_simp; rfl)); intro gb310 hg w7 hbox hb; have n0_ := Aside0.mk (below_step (by repeat (first | (with_reducible first | exact HB.out | apply below_alloc | apply pw_below_drewN | apply below_drew1) | exact HB.out)) hb); have n1_ := Aside0.mk (hbox); have n2_ := Aside0.mk ((by rw [hg]; exact (below_size (by repeat (first | (with_reducible first | exact HB.out | apply below_alloc | apply pw_below_drewN | apply below_drew1) | exact HB.out))) : w.heap.size ≤ gb310)); have n3_ := Aside0.mk ((by rw [hg]; exact (below_size (by repeat (first | (with_reducible first | exact HB.out | apply below_alloc | apply pw_below_drewN | apply below_drew1) | exact HB.out))) : w.heap.size ≤ gb310)); clear HB; have HB := n0_; have BK310 := n1_; have GW310 := n2_; have GE310 := n3_; clear n0_ n1_ n2_ n3_; clear hb hbox hg; have hcz8_0 : w7.cell? ⟨gb310, 0, none⟩ = some (.int .i64 0) := (blk_cell BK310.out 0).trans rfl; have hcz8_1 : w7.cell? ⟨gb310, 1, none⟩ = some (.int .i64 0) := (blk_cell BK310.out 1).trans rfl; have hcz8_2 : w7.cell? ⟨gb310, 2, none⟩ = some (.int .i64 0) := (blk_cell BK310.out 2).trans rfl; have hfz8_0 := blk_frozen BK310.out 0; have hfz8_1 := blk_frozen BK310.out 1; have hfz8_2 := blk_frozen BK310.out 2))
      repeat (go_quiet (first | ((with_reducible refine gate_dst (N := 6) rfl ?_); refine box_event ?hg (N := 6) ?hd (cs := #[.int .i64 0, .int .i64 0, .int .i64 0]) (t := 47) ?hr ?_; (case hd => rfl); (case hg => rfl); (case hr => first | (go_simp; done) | (go_simp; rfl)); intro gb310 hg w7 hbox hb; have n0_ := Aside0.mk (below_step (by repeat (first | (with_reducible first | exact HB.out | apply below_alloc | apply pw_below_drewN | apply below_drew1) | exact HB.out)) hb); have n1_ := Aside0.mk (hbox); have n2_ := Aside0.mk ((by rw [hg]; exact (below_size (by repeat (first | (with_reducible first | exact HB.out | apply below_alloc | apply pw_below_drewN | apply below_drew1) | exact HB.out))) : w.heap.size ≤ gb310)); have n3_ := Aside0.mk ((by rw [hg]; exact (below_size (by repeat (first | (with_reducible first | exact HB.out | apply below_alloc | apply pw_below_drewN | apply below_drew1) | exact HB.out))) : w.heap.size ≤ gb310)); clear HB; have HB := n0_; have BK310 := n1_; have GW310 := n2_; have GE310 := n3_; clear n0_ n1_ n2_ n3_; clear hb hbox hg; have hcz8_0 : w7.cell? ⟨gb310, 0, none⟩ = some (.int .i64 0) := (blk_cell BK310.out 0).trans rfl; have hcz8_1 : w7.cell? ⟨gb310, 1, none⟩ = some (.int .i64 0) := (blk_cell BK310.out 1).trans rfl; have hcz8_2 : w7.cell? ⟨gb310, 2, none⟩ = some (.int .i64 0) := (blk_cell BK310.out 2).trans rfl; have hfz8_0 := blk_frozen BK310.out 0; have hfz8_1 := blk_frozen BK310.out 1; have hfz8_2 := blk_frozen BK310.out 2)); go_upto_region 7 with (first | ((with_reducible refine gate_dst (N := 6) rfl ?_); refine box_event ?hg (N := 6) ?hd (cs := #[.int .i64 0, .int .i64 0, .int .i64 0]) (t := 47) ?hr ?_; (case hd => rfl); (case hg => rfl); (case hr => first | (go_simp; done) | (go_simp; rfl)); intro gb310 hg w7 hbox hb; have n0_ := Aside0.mk (below_step (by repeat (first | (with_reducible first | exact HB.out | apply below_alloc | apply pw_below_drewN | apply below_drew1) | exact HB.out)) hb); have n1_ := Aside0.mk (hbox); have n2_ := Aside0.mk ((by rw [hg]; exact (below_size (by repeat (first | (with_reducible first | exact HB.out | apply below_alloc | apply pw_below_drewN | apply below_drew1) | exact HB.out))) : w.heap.size ≤ gb310)); have n3_ := Aside0.mk ((by rw [hg]; exact (below_size (by repeat (first | (with_reducible first | exact HB.out | apply below_alloc | apply pw_below_drewN | apply below_drew1) | exact HB.out))) : w.heap.size ≤ gb310)); clear HB; have HB := n0_; have BK310 := n1_; have GW310 := n2_; have GE310 := n3_; clear n0_ n1_ n2_ n3_; clear hb hbox hg; have hcz8_0 : w7.cell? ⟨gb310, 0, none⟩ = some (.int .i64 0) := (blk_cell BK310.out 0).trans rfl; have hcz8_1 : w7.cell? ⟨gb310, 1, none⟩ = some (.int .i64 0) := (blk_cell BK310.out 1).trans rfl; have hcz8_2 : w7.cell? ⟨gb310, 2, none⟩ = some (.int .i64 0) := (blk_cell BK310.out 2).trans rfl; have hfz8_0 := blk_frozen BK310.out 0; have hfz8_1 := blk_frozen BK310.out 1; have hfz8_2 := blk_frozen BK310.out 2)))
      (try simp only [Act.put, List.setIfInBounds_toArray, List.set_cons_zero, List.set_cons_succ])
      go_cut [67] (fun v67 wc => ∃ (kq : Nat) (x67_5 : Bool), v67 = .bool x67_5 ∧ Aside0 (colophonref11_Good.j1 kq l0 a1 x5_1 x67_5 ((rd_T47 l0 x5_1).f0) ((rd_T47 l0 x5_1).f1) ((rd_T47 l0 x5_1).f2) = some r) ∧ Aside0 (kq ≤ k1) ∧ Aside0 (wc.heap[gb310]? = some (.cells #[.int .i64 ((rd_T47 l0 x5_1).f0), .int .i64 ((rd_T47 l0 x5_1).f1), .int .i64 ((rd_T47 l0 x5_1).f2)] 47 (0, 0))) ∧ Aside0 (Below w.heap.size w wc))
      case first =>
       have H := HC6.out
       clear HC6
       by_cases c9 : ((rd_T47 l0 x5_1).f0) > ((rd_T47 l0 x5_1).f1)
       ·rw [if_pos c9] at H
        have c9b0 : decide (((rd_T47 l0 x5_1).f1) < ((rd_T47 l0 x5_1).f0)) = true := decide_eq_true c9
        clear c9
        (first | rw [c9b0] | (simp only [i64_w, i32_w]; rw [c9b0]) | skip)
        have H' := Aside0.mk H
        clear H
        have hcz10_0 : w7.cell? ⟨gb310, 0, none⟩ = some (.int .i64 0) := (blk_cell BK310.out 0).trans rfl
        have hcz10_1 : w7.cell? ⟨gb310, 1, none⟩ = some (.int .i64 0) := (blk_cell BK310.out 1).trans rfl
        have hcz10_2 : w7.cell? ⟨gb310, 2, none⟩ = some (.int .i64 0) := (blk_cell BK310.out 2).trans rfl
        have hfz10_0 := blk_frozen BK310.out 0
        have hfz10_1 := blk_frozen BK310.out 1
        have hfz10_2 := blk_frozen BK310.out 2
        go_wp2
        repeat (go_quiet (fail); try go_wp2)
        go_meet
        case rel => exact ⟨_, (true), (by first | rfl | (simp; done) | (simp [*]; done)), H', ⟨by have := HK1.out; first | omega | exact Nat.le_refl _⟩, ⟨by (with_reducible repeat (first | refine blk_drewN ?_ _ | refine blk_drew ?_ | refine blk_alloc ?_ _)); refine blk_put (cs := #[.int .i64 ((rd_T47 l0 x5_1).f0), .int .i64 ((rd_T47 l0 x5_1).f1), .int .i64 0]) ?_ 2 _ rfl; (with_reducible repeat (first | refine blk_drewN ?_ _ | refine blk_drew ?_ | refine blk_alloc ?_ _)); refine blk_put (cs := #[.int .i64 ((rd_T47 l0 x5_1).f0), .int .i64 0, .int .i64 0]) ?_ 1 _ rfl; (with_reducible repeat (first | refine blk_drewN ?_ _ | refine blk_drew ?_ | refine blk_alloc ?_ _)); refine blk_put (cs := #[.int .i64 0, .int .i64 0, .int .i64 0]) ?_ 0 _ rfl; (with_reducible repeat (first | refine blk_drewN ?_ _ | refine blk_drew ?_ | refine blk_alloc ?_ _)); exact BK310.out⟩, ⟨by repeat (first | (with_reducible first | exact HB.out | apply below_alloc | apply pw_below_drewN | apply below_drew1 | refine below_set ?_ GE310.out) | exact HB.out)⟩⟩
       ·rw [if_neg c9] at H
        have c9b0 : decide (((rd_T47 l0 x5_1).f1) < ((rd_T47 l0 x5_1).f0)) = false := decide_eq_false c9
        clear c9
        (first | rw [c9b0] | (simp only [i64_w, i32_w]; rw [c9b0]) | skip)
        by_cases c11 : ((rd_T47 l0 x5_1).f0) < 0
        ·rw [if_pos c11] at H
         have c11b0 : decide (((rd_T47 l0 x5_1).f0) < 0) = true := decide_eq_true c11
         clear c11
         have H' := Aside0.mk H
         clear H
         have hcz12_0 : w7.cell? ⟨gb310, 0, none⟩ = some (.int .i64 0) := (blk_cell BK310.out 0).trans rfl
         have hcz12_1 : w7.cell? ⟨gb310, 1, none⟩ = some (.int .i64 0) := (blk_cell BK310.out 1).trans rfl
         have hcz12_2 : w7.cell? ⟨gb310, 2, none⟩ = some (.int .i64 0) := (blk_cell BK310.out 2).trans rfl
         have hfz12_0 := blk_frozen BK310.out 0
         have hfz12_1 := blk_frozen BK310.out 1
         have hfz12_2 := blk_frozen BK310.out 2
         go_wp2
         repeat (go_quiet (fail); try go_wp2)
         go_meet
         case rel => exact ⟨_, (true), (by first | rfl | (simp; done) | (simp [*]; done)), H', ⟨by have := HK1.out; first | omega | exact Nat.le_refl _⟩, ⟨by (with_reducible repeat (first | refine blk_drewN ?_ _ | refine blk_drew ?_ | refine blk_alloc ?_ _)); refine blk_put (cs := #[.int .i64 ((rd_T47 l0 x5_1).f0), .int .i64 ((rd_T47 l0 x5_1).f1), .int .i64 0]) ?_ 2 _ rfl; (with_reducible repeat (first | refine blk_drewN ?_ _ | refine blk_drew ?_ | refine blk_alloc ?_ _)); refine blk_put (cs := #[.int .i64 ((rd_T47 l0 x5_1).f0), .int .i64 0, .int .i64 0]) ?_ 1 _ rfl; (with_reducible repeat (first | refine blk_drewN ?_ _ | refine blk_drew ?_ | refine blk_alloc ?_ _)); refine blk_put (cs := #[.int .i64 0, .int .i64 0, .int .i64 0]) ?_ 0 _ rfl; (with_reducible repeat (first | refine blk_drewN ?_ _ | refine blk_drew ?_ | refine blk_alloc ?_ _)); exact BK310.out⟩, ⟨by repeat (first | (with_reducible first | exact HB.out | apply below_alloc | apply pw_below_drewN | apply below_drew1 | refine below_set ?_ GE310.out) | exact HB.out)⟩⟩
        ·rw [if_neg c11] at H
         have c11b0 : decide (((rd_T47 l0 x5_1).f0) < 0) = false := decide_eq_false c11
         clear c11
         by_cases c13 : ((rd_T47 l0 x5_1).f1) > 1114111
         ·rw [if_pos c13] at H
          have c13b0 : decide (1114111 < ((rd_T47 l0 x5_1).f1)) = true := decide_eq_true c13
          clear c13
          have H' := Aside0.mk H
          clear H
          have hcz14_0 : w7.cell? ⟨gb310, 0, none⟩ = some (.int .i64 0) := (blk_cell BK310.out 0).trans rfl
          have hcz14_1 : w7.cell? ⟨gb310, 1, none⟩ = some (.int .i64 0) := (blk_cell BK310.out 1).trans rfl
          have hcz14_2 : w7.cell? ⟨gb310, 2, none⟩ = some (.int .i64 0) := (blk_cell BK310.out 2).trans rfl
          have hfz14_0 := blk_frozen BK310.out 0
          have hfz14_1 := blk_frozen BK310.out 1
          have hfz14_2 := blk_frozen BK310.out 2
          go_wp2
          repeat (go_quiet (fail); try go_wp2)
          go_meet
          case rel => exact ⟨_, (true), (by first | rfl | (simp; done) | (simp [*]; done)), H', ⟨by have := HK1.out; first | omega | exact Nat.le_refl _⟩, ⟨by (with_reducible repeat (first | refine blk_drewN ?_ _ | refine blk_drew ?_ | refine blk_alloc ?_ _)); refine blk_put (cs := #[.int .i64 ((rd_T47 l0 x5_1).f0), .int .i64 ((rd_T47 l0 x5_1).f1), .int .i64 0]) ?_ 2 _ rfl; (with_reducible repeat (first | refine blk_drewN ?_ _ | refine blk_drew ?_ | refine blk_alloc ?_ _)); refine blk_put (cs := #[.int .i64 ((rd_T47 l0 x5_1).f0), .int .i64 0, .int .i64 0]) ?_ 1 _ rfl; (with_reducible repeat (first | refine blk_drewN ?_ _ | refine blk_drew ?_ | refine blk_alloc ?_ _)); refine blk_put (cs := #[.int .i64 0, .int .i64 0, .int .i64 0]) ?_ 0 _ rfl; (with_reducible repeat (first | refine blk_drewN ?_ _ | refine blk_drew ?_ | refine blk_alloc ?_ _)); exact BK310.out⟩, ⟨by repeat (first | (with_reducible first | exact HB.out | apply below_alloc | apply pw_below_drewN | apply below_drew1 | refine below_set ?_ GE310.out) | exact HB.out)⟩⟩
         ·rw [if_neg c13] at H
          have c13b0 : decide (1114111 < ((rd_T47 l0 x5_1).f1)) = false := decide_eq_false c13
          clear c13
          by_cases c15 : ((rd_T47 l0 x5_1).f0) ≤ 57343
          ·rw [if_pos c15] at H
           have c15b0 : decide (((rd_T47 l0 x5_1).f0) ≤ 57343) = true := decide_eq_true c15
           clear c15
           by_cases c16 : ((rd_T47 l0 x5_1).f1) ≥ 55296
           ·rw [if_pos c16] at H
            have c16b0 : decide (55296 ≤ ((rd_T47 l0 x5_1).f1)) = true := decide_eq_true c16
            clear c16
            have H' := Aside0.mk H
            clear H
            have hcz17_0 : w7.cell? ⟨gb310, 0, none⟩ = some (.int .i64 0) := (blk_cell BK310.out 0).trans rfl
            have hcz17_1 : w7.cell? ⟨gb310, 1, none⟩ = some (.int .i64 0) := (blk_cell BK310.out 1).trans rfl
            have hcz17_2 : w7.cell? ⟨gb310, 2, none⟩ = some (.int .i64 0) := (blk_cell BK310.out 2).trans rfl
            have hfz17_0 := blk_frozen BK310.out 0
            have hfz17_1 := blk_frozen BK310.out 1
            have hfz17_2 := blk_frozen BK310.out 2
            go_wp2
            repeat (go_quiet (fail); try go_wp2)
            go_meet
            case rel => exact ⟨_, (true), (by first | rfl | (simp; done) | (simp [*]; done)), H', ⟨by have := HK1.out; first | omega | exact Nat.le_refl _⟩, ⟨by (with_reducible repeat (first | refine blk_drewN ?_ _ | refine blk_drew ?_ | refine blk_alloc ?_ _)); refine blk_put (cs := #[.int .i64 ((rd_T47 l0 x5_1).f0), .int .i64 ((rd_T47 l0 x5_1).f1), .int .i64 0]) ?_ 2 _ rfl; (with_reducible repeat (first | refine blk_drewN ?_ _ | refine blk_drew ?_ | refine blk_alloc ?_ _)); refine blk_put (cs := #[.int .i64 ((rd_T47 l0 x5_1).f0), .int .i64 0, .int .i64 0]) ?_ 1 _ rfl; (with_reducible repeat (first | refine blk_drewN ?_ _ | refine blk_drew ?_ | refine blk_alloc ?_ _)); refine blk_put (cs := #[.int .i64 0, .int .i64 0, .int .i64 0]) ?_ 0 _ rfl; (with_reducible repeat (first | refine blk_drewN ?_ _ | refine blk_drew ?_ | refine blk_alloc ?_ _)); exact BK310.out⟩, ⟨by repeat (first | (with_reducible first | exact HB.out | apply below_alloc | apply pw_below_drewN | apply below_drew1 | refine below_set ?_ GE310.out) | exact HB.out)⟩⟩
           ·rw [if_neg c16] at H
            have c16b0 : decide (55296 ≤ ((rd_T47 l0 x5_1).f1)) = false := decide_eq_false c16
            clear c16
            by_cases c18 : ((rd_T47 l0 x5_1).f2) < 1
            ·rw [if_pos c18] at H
             have c18b0 : decide (((rd_T47 l0 x5_1).f2) < 1) = true := decide_eq_true c18
             clear c18
             have H' := Aside0.mk H
             clear H
             have hcz19_0 : w7.cell? ⟨gb310, 0, none⟩ = some (.int .i64 0) := (blk_cell BK310.out 0).trans rfl
             have hcz19_1 : w7.cell? ⟨gb310, 1, none⟩ = some (.int .i64 0) := (blk_cell BK310.out 1).trans rfl
             have hcz19_2 : w7.cell? ⟨gb310, 2, none⟩ = some (.int .i64 0) := (blk_cell BK310.out 2).trans rfl
             have hfz19_0 := blk_frozen BK310.out 0
             have hfz19_1 := blk_frozen BK310.out 1
             have hfz19_2 := blk_frozen BK310.out 2
             go_wp2
             repeat (go_quiet (fail); try go_wp2)
             go_meet
             case rel => exact ⟨_, (true), (by first | rfl | (simp; done) | (simp [*]; done)), H', ⟨by have := HK1.out; first | omega | exact Nat.le_refl _⟩, ⟨by (with_reducible repeat (first | refine blk_drewN ?_ _ | refine blk_drew ?_ | refine blk_alloc ?_ _)); refine blk_put (cs := #[.int .i64 ((rd_T47 l0 x5_1).f0), .int .i64 ((rd_T47 l0 x5_1).f1), .int .i64 0]) ?_ 2 _ rfl; (with_reducible repeat (first | refine blk_drewN ?_ _ | refine blk_drew ?_ | refine blk_alloc ?_ _)); refine blk_put (cs := #[.int .i64 ((rd_T47 l0 x5_1).f0), .int .i64 0, .int .i64 0]) ?_ 1 _ rfl; (with_reducible repeat (first | refine blk_drewN ?_ _ | refine blk_drew ?_ | refine blk_alloc ?_ _)); refine blk_put (cs := #[.int .i64 0, .int .i64 0, .int .i64 0]) ?_ 0 _ rfl; (with_reducible repeat (first | refine blk_drewN ?_ _ | refine blk_drew ?_ | refine blk_alloc ?_ _)); exact BK310.out⟩, ⟨by repeat (first | (with_reducible first | exact HB.out | apply below_alloc | apply pw_below_drewN | apply below_drew1 | refine below_set ?_ GE310.out) | exact HB.out)⟩⟩
            ·rw [if_neg c18] at H
             have c18b0 : decide (((rd_T47 l0 x5_1).f2) < 1) = false := decide_eq_false c18
             clear c18
             by_cases c20 : ((rd_T47 l0 x5_1).f2) ≥ a1
             ·rw [if_pos c20] at H
              have c20b0 : decide (a1 ≤ ((rd_T47 l0 x5_1).f2)) = true := decide_eq_true c20
              clear c20
              have H' := Aside0.mk H
              clear H
              have hcz21_0 : w7.cell? ⟨gb310, 0, none⟩ = some (.int .i64 0) := (blk_cell BK310.out 0).trans rfl
              have hcz21_1 : w7.cell? ⟨gb310, 1, none⟩ = some (.int .i64 0) := (blk_cell BK310.out 1).trans rfl
              have hcz21_2 : w7.cell? ⟨gb310, 2, none⟩ = some (.int .i64 0) := (blk_cell BK310.out 2).trans rfl
              have hfz21_0 := blk_frozen BK310.out 0
              have hfz21_1 := blk_frozen BK310.out 1
              have hfz21_2 := blk_frozen BK310.out 2
              go_wp2
              repeat (go_quiet (fail); try go_wp2)
              go_meet
              case rel => exact ⟨_, (true), (by first | rfl | (simp; done) | (simp [*]; done)), H', ⟨by have := HK1.out; first | omega | exact Nat.le_refl _⟩, ⟨by (with_reducible repeat (first | refine blk_drewN ?_ _ | refine blk_drew ?_ | refine blk_alloc ?_ _)); refine blk_put (cs := #[.int .i64 ((rd_T47 l0 x5_1).f0), .int .i64 ((rd_T47 l0 x5_1).f1), .int .i64 0]) ?_ 2 _ rfl; (with_reducible repeat (first | refine blk_drewN ?_ _ | refine blk_drew ?_ | refine blk_alloc ?_ _)); refine blk_put (cs := #[.int .i64 ((rd_T47 l0 x5_1).f0), .int .i64 0, .int .i64 0]) ?_ 1 _ rfl; (with_reducible repeat (first | refine blk_drewN ?_ _ | refine blk_drew ?_ | refine blk_alloc ?_ _)); refine blk_put (cs := #[.int .i64 0, .int .i64 0, .int .i64 0]) ?_ 0 _ rfl; (with_reducible repeat (first | refine blk_drewN ?_ _ | refine blk_drew ?_ | refine blk_alloc ?_ _)); exact BK310.out⟩, ⟨by repeat (first | (with_reducible first | exact HB.out | apply below_alloc | apply pw_below_drewN | apply below_drew1 | refine below_set ?_ GE310.out) | exact HB.out)⟩⟩
             ·rw [if_neg c20] at H
              have c20b0 : decide (a1 ≤ ((rd_T47 l0 x5_1).f2)) = false := decide_eq_false c20
              clear c20
              have H' := Aside0.mk H
              clear H
              have hcz22_0 : w7.cell? ⟨gb310, 0, none⟩ = some (.int .i64 0) := (blk_cell BK310.out 0).trans rfl
              have hcz22_1 : w7.cell? ⟨gb310, 1, none⟩ = some (.int .i64 0) := (blk_cell BK310.out 1).trans rfl
              have hcz22_2 : w7.cell? ⟨gb310, 2, none⟩ = some (.int .i64 0) := (blk_cell BK310.out 2).trans rfl
              have hfz22_0 := blk_frozen BK310.out 0
              have hfz22_1 := blk_frozen BK310.out 1
              have hfz22_2 := blk_frozen BK310.out 2
              go_wp2
              repeat (go_quiet (fail); try go_wp2)
              go_meet
              case rel => exact ⟨_, (decide ((wrap64 (((rd_T47 l0 x5_1).f1) - ((rd_T47 l0 x5_1).f0))) ≥ (wrap64 (a1 - ((rd_T47 l0 x5_1).f2))))), (by first | rfl | (simp; done) | (simp [*]; done)), H', ⟨by have := HK1.out; first | omega | exact Nat.le_refl _⟩, ⟨by (with_reducible repeat (first | refine blk_drewN ?_ _ | refine blk_drew ?_ | refine blk_alloc ?_ _)); refine blk_put (cs := #[.int .i64 ((rd_T47 l0 x5_1).f0), .int .i64 ((rd_T47 l0 x5_1).f1), .int .i64 0]) ?_ 2 _ rfl; (with_reducible repeat (first | refine blk_drewN ?_ _ | refine blk_drew ?_ | refine blk_alloc ?_ _)); refine blk_put (cs := #[.int .i64 ((rd_T47 l0 x5_1).f0), .int .i64 0, .int .i64 0]) ?_ 1 _ rfl; (with_reducible repeat (first | refine blk_drewN ?_ _ | refine blk_drew ?_ | refine blk_alloc ?_ _)); refine blk_put (cs := #[.int .i64 0, .int .i64 0, .int .i64 0]) ?_ 0 _ rfl; (with_reducible repeat (first | refine blk_drewN ?_ _ | refine blk_drew ?_ | refine blk_alloc ?_ _)); exact BK310.out⟩, ⟨by repeat (first | (with_reducible first | exact HB.out | apply below_alloc | apply pw_below_drewN | apply below_drew1 | refine below_set ?_ GE310.out) | exact HB.out)⟩⟩
          ·rw [if_neg c15] at H
           have c15b0 : decide (((rd_T47 l0 x5_1).f0) ≤ 57343) = false := decide_eq_false c15
           clear c15
           by_cases c23 : ((rd_T47 l0 x5_1).f2) < 1
           ·rw [if_pos c23] at H
            have c23b0 : decide (((rd_T47 l0 x5_1).f2) < 1) = true := decide_eq_true c23
            clear c23
            have H' := Aside0.mk H
            clear H
            have hcz24_0 : w7.cell? ⟨gb310, 0, none⟩ = some (.int .i64 0) := (blk_cell BK310.out 0).trans rfl
            have hcz24_1 : w7.cell? ⟨gb310, 1, none⟩ = some (.int .i64 0) := (blk_cell BK310.out 1).trans rfl
            have hcz24_2 : w7.cell? ⟨gb310, 2, none⟩ = some (.int .i64 0) := (blk_cell BK310.out 2).trans rfl
            have hfz24_0 := blk_frozen BK310.out 0
            have hfz24_1 := blk_frozen BK310.out 1
            have hfz24_2 := blk_frozen BK310.out 2
            go_wp2
            repeat (go_quiet (fail); try go_wp2)
            go_meet
            case rel => exact ⟨_, (true), (by first | rfl | (simp; done) | (simp [*]; done)), H', ⟨by have := HK1.out; first | omega | exact Nat.le_refl _⟩, ⟨by (with_reducible repeat (first | refine blk_drewN ?_ _ | refine blk_drew ?_ | refine blk_alloc ?_ _)); refine blk_put (cs := #[.int .i64 ((rd_T47 l0 x5_1).f0), .int .i64 ((rd_T47 l0 x5_1).f1), .int .i64 0]) ?_ 2 _ rfl; (with_reducible repeat (first | refine blk_drewN ?_ _ | refine blk_drew ?_ | refine blk_alloc ?_ _)); refine blk_put (cs := #[.int .i64 ((rd_T47 l0 x5_1).f0), .int .i64 0, .int .i64 0]) ?_ 1 _ rfl; (with_reducible repeat (first | refine blk_drewN ?_ _ | refine blk_drew ?_ | refine blk_alloc ?_ _)); refine blk_put (cs := #[.int .i64 0, .int .i64 0, .int .i64 0]) ?_ 0 _ rfl; (with_reducible repeat (first | refine blk_drewN ?_ _ | refine blk_drew ?_ | refine blk_alloc ?_ _)); exact BK310.out⟩, ⟨by repeat (first | (with_reducible first | exact HB.out | apply below_alloc | apply pw_below_drewN | apply below_drew1 | refine below_set ?_ GE310.out) | exact HB.out)⟩⟩
           ·rw [if_neg c23] at H
            have c23b0 : decide (((rd_T47 l0 x5_1).f2) < 1) = false := decide_eq_false c23
            clear c23
            by_cases c25 : ((rd_T47 l0 x5_1).f2) ≥ a1
            ·rw [if_pos c25] at H
             have c25b0 : decide (a1 ≤ ((rd_T47 l0 x5_1).f2)) = true := decide_eq_true c25
             clear c25
             have H' := Aside0.mk H
             clear H
             have hcz26_0 : w7.cell? ⟨gb310, 0, none⟩ = some (.int .i64 0) := (blk_cell BK310.out 0).trans rfl
             have hcz26_1 : w7.cell? ⟨gb310, 1, none⟩ = some (.int .i64 0) := (blk_cell BK310.out 1).trans rfl
             have hcz26_2 : w7.cell? ⟨gb310, 2, none⟩ = some (.int .i64 0) := (blk_cell BK310.out 2).trans rfl
             have hfz26_0 := blk_frozen BK310.out 0
             have hfz26_1 := blk_frozen BK310.out 1
             have hfz26_2 := blk_frozen BK310.out 2
             go_wp2
             repeat (go_quiet (fail); try go_wp2)
             go_meet
             case rel => exact ⟨_, (true), (by first | rfl | (simp; done) | (simp [*]; done)), H', ⟨by have := HK1.out; first | omega | exact Nat.le_refl _⟩, ⟨by (with_reducible repeat (first | refine blk_drewN ?_ _ | refine blk_drew ?_ | refine blk_alloc ?_ _)); refine blk_put (cs := #[.int .i64 ((rd_T47 l0 x5_1).f0), .int .i64 ((rd_T47 l0 x5_1).f1), .int .i64 0]) ?_ 2 _ rfl; (with_reducible repeat (first | refine blk_drewN ?_ _ | refine blk_drew ?_ | refine blk_alloc ?_ _)); refine blk_put (cs := #[.int .i64 ((rd_T47 l0 x5_1).f0), .int .i64 0, .int .i64 0]) ?_ 1 _ rfl; (with_reducible repeat (first | refine blk_drewN ?_ _ | refine blk_drew ?_ | refine blk_alloc ?_ _)); refine blk_put (cs := #[.int .i64 0, .int .i64 0, .int .i64 0]) ?_ 0 _ rfl; (with_reducible repeat (first | refine blk_drewN ?_ _ | refine blk_drew ?_ | refine blk_alloc ?_ _)); exact BK310.out⟩, ⟨by repeat (first | (with_reducible first | exact HB.out | apply below_alloc | apply pw_below_drewN | apply below_drew1 | refine below_set ?_ GE310.out) | exact HB.out)⟩⟩
            ·rw [if_neg c25] at H
             have c25b0 : decide (a1 ≤ ((rd_T47 l0 x5_1).f2)) = false := decide_eq_false c25
             clear c25
             have H' := Aside0.mk H
             clear H
             have hcz27_0 : w7.cell? ⟨gb310, 0, none⟩ = some (.int .i64 0) := (blk_cell BK310.out 0).trans rfl
             have hcz27_1 : w7.cell? ⟨gb310, 1, none⟩ = some (.int .i64 0) := (blk_cell BK310.out 1).trans rfl
             have hcz27_2 : w7.cell? ⟨gb310, 2, none⟩ = some (.int .i64 0) := (blk_cell BK310.out 2).trans rfl
             have hfz27_0 := blk_frozen BK310.out 0
             have hfz27_1 := blk_frozen BK310.out 1
             have hfz27_2 := blk_frozen BK310.out 2
             go_wp2
             repeat (go_quiet (fail); try go_wp2)
             go_meet
             case rel => exact ⟨_, (decide ((wrap64 (((rd_T47 l0 x5_1).f1) - ((rd_T47 l0 x5_1).f0))) ≥ (wrap64 (a1 - ((rd_T47 l0 x5_1).f2))))), (by first | rfl | (simp; done) | (simp [*]; done)), H', ⟨by have := HK1.out; first | omega | exact Nat.le_refl _⟩, ⟨by (with_reducible repeat (first | refine blk_drewN ?_ _ | refine blk_drew ?_ | refine blk_alloc ?_ _)); refine blk_put (cs := #[.int .i64 ((rd_T47 l0 x5_1).f0), .int .i64 ((rd_T47 l0 x5_1).f1), .int .i64 0]) ?_ 2 _ rfl; (with_reducible repeat (first | refine blk_drewN ?_ _ | refine blk_drew ?_ | refine blk_alloc ?_ _)); refine blk_put (cs := #[.int .i64 ((rd_T47 l0 x5_1).f0), .int .i64 0, .int .i64 0]) ?_ 1 _ rfl; (with_reducible repeat (first | refine blk_drewN ?_ _ | refine blk_drew ?_ | refine blk_alloc ?_ _)); refine blk_put (cs := #[.int .i64 0, .int .i64 0, .int .i64 0]) ?_ 0 _ rfl; (with_reducible repeat (first | refine blk_drewN ?_ _ | refine blk_drew ?_ | refine blk_alloc ?_ _)); exact BK310.out⟩, ⟨by repeat (first | (with_reducible first | exact HB.out | apply below_alloc | apply pw_below_drewN | apply below_drew1 | refine below_set ?_ GE310.out) | exact HB.out)⟩⟩
      case rest =>
       clear HC6
       try clear c1
       try clear c2
       try clear p2
       try clear c3
       try clear c3b0
       try clear c3b1
       try clear p3
       try clear q3
       try clear hx3
       try clear c4
       try clear c4b0
       try clear c5
       try clear c5b0
       try clear p6
       try clear c9
       try clear c9b0
       try clear c11
       try clear c11b0
       try clear c13
       try clear c13b0
       try clear c15
       try clear c15b0
       try clear c16
       try clear c16b0
       try clear c18
       try clear c18b0
       try clear c20
       try clear c20b0
       try clear c23
       try clear c23b0
       try clear c25
       try clear c25b0
       try clear hcz10_0
       try clear hcz10_1
       try clear hcz10_2
       try clear hcz12_0
       try clear hcz12_1
       try clear hcz12_2
       try clear hcz14_0
       try clear hcz14_1
       try clear hcz14_2
       try clear hcz17_0
       try clear hcz17_1
       try clear hcz17_2
       try clear hcz19_0
       try clear hcz19_1
       try clear hcz19_2
       try clear hcz21_0
       try clear hcz21_1
       try clear hcz21_2
       try clear hcz22_0
       try clear hcz22_1
       try clear hcz22_2
       try clear hcz24_0
       try clear hcz24_1
       try clear hcz24_2
       try clear hcz26_0
       try clear hcz26_1
       try clear hcz26_2
       try clear hcz27_0
       try clear hcz27_1
       try clear hcz27_2
       try clear hcz8_0
       try clear hcz8_1
       try clear hcz8_2
       try clear hfz10_0
       try clear hfz10_1
       try clear hfz10_2
       try clear hfz12_0
       try clear hfz12_1
       try clear hfz12_2
       try clear hfz14_0
       try clear hfz14_1
       try clear hfz14_2
       try clear hfz17_0
       try clear hfz17_1
       try clear hfz17_2
       try clear hfz19_0
       try clear hfz19_1
       try clear hfz19_2
       try clear hfz21_0
       try clear hfz21_1
       try clear hfz21_2
       try clear hfz22_0
       try clear hfz22_1
       try clear hfz22_2
       try clear hfz24_0
       try clear hfz24_1
       try clear hfz24_2
       try clear hfz26_0
       try clear hfz26_1
       try clear hfz26_2
       try clear hfz27_0
       try clear hfz27_1
       try clear hfz27_2
       try clear hfz8_0
       try clear hfz8_1
       try clear hfz8_2
       try clear hx309_0
       try clear hx309_1
       try clear hx309_2
       try clear p2
       try clear p309
       try clear q309
       obtain ⟨kq, x67_5, rfl, HA, HJ5, BK310, HB⟩ := hcut
       cases kq with
       | zero => exact absurd HA.out (by simp [colophonref11_Good.j1])
       | succ kj5 =>
        have H := HA.out
        clear HA
        simp only [colophonref11_Good.j1] at H
        by_cases c28 : x67_5 = true
        ·subst c28
         have H1 : (some false) = some r := by rw [if_pos rfl] at H; exact H
         clear H
         have H := H1
         clear H1
         obtain rfl := Option.some.inj H
         go_wp2
         repeat (go_quiet (fail); try go_wp2)
         go_ret
         exact ⟨by first | rfl | (simp [errW_none, errW_some] <;> rfl) | (simp [*, errW_none, errW_some] <;> rfl) | (((first | rw [pw_wdiv _ _ (by omega) (by omega)] | rw [pw_wdiv' _ _ (by omega) (by omega)] | rw [Go.IntWalk.wrap64_in _ (by omega)]); repeat (first | rw [pw_wdiv _ _ (by omega) (by omega)] | rw [pw_wdiv' _ _ (by omega) (by omega)] | rw [Go.IntWalk.wrap64_in _ (by omega)])); rfl), by repeat (first | (with_reducible first | exact HB.out | apply below_alloc | apply pw_below_drewN | apply below_drew1 | refine below_set ?_ GE310.out) | exact HB.out)⟩
        ·replace c28 := Bool.eq_false_iff.mpr c28
         subst c28
         have H1 : (if x5_1 > 0 then (if 0 ≤ (wrap64 (x5_1 - 1)) then (if (wrap64 (x5_1 - 1)) < (l0.length : Int) then (if ((rd_T47 l0 x5_1).f0) ≤ ((rd_T47 l0 (wrap64 (x5_1 - 1))).f1) then (some false) else (if ((rd_T47 l0 x5_1).f0) = (wrap64 (((rd_T47 l0 (wrap64 (x5_1 - 1))).f1) + 1)) then (if ((rd_T47 l0 x5_1).f2) = (wrap64 ((wrap64 ((wrap64 (((rd_T47 l0 (wrap64 (x5_1 - 1))).f2) + ((rd_T47 l0 (wrap64 (x5_1 - 1))).f1))) - ((rd_T47 l0 (wrap64 (x5_1 - 1))).f0))) + 1)) then (some false) else (colophonref11_Good.l0 kj5 l0 a1 (wrap64 (x5_1 + 1)))) else (colophonref11_Good.l0 kj5 l0 a1 (wrap64 (x5_1 + 1))))) else (none)) else (none)) else (colophonref11_Good.l0 kj5 l0 a1 (wrap64 (x5_1 + 1)))) = some r := by rw [if_neg (show ¬ (false = true) by decide)] at H; exact H
         clear H
         have H := H1
         clear H1
         by_cases c29 : x5_1 > 0
         ·rw [if_pos c29] at H
          have c29b0 : decide (0 < x5_1) = true := decide_eq_true c29
          clear c29
          obtain ⟨ji30, hji30⟩ : ∃ j_ : Int, (wrap64 (x5_1 - 1)) = j_ := ⟨_, rfl⟩
          replace H : (if 0 ≤ (ji30) then (if (ji30) < (l0.length : Int) then (if ((rd_T47 l0 x5_1).f0) ≤ ((rd_T47 l0 (ji30)).f1) then (some false) else (if ((rd_T47 l0 x5_1).f0) = (wrap64 (((rd_T47 l0 (ji30)).f1) + 1)) then (if ((rd_T47 l0 x5_1).f2) = (wrap64 ((wrap64 ((wrap64 (((rd_T47 l0 (ji30)).f2) + ((rd_T47 l0 (ji30)).f1))) - ((rd_T47 l0 (ji30)).f0))) + 1)) then (some false) else (colophonref11_Good.l0 kj5 l0 a1 (wrap64 (x5_1 + 1)))) else (colophonref11_Good.l0 kj5 l0 a1 (wrap64 (x5_1 + 1))))) else (none)) else (none)) = some r := by first | (rw [hji30] at H; exact H) | (simp only [hji30] at H ⊢; exact H)
          have hji30w : (IntKind.i64.wrap (x5_1 - 1)) = ji30 := (i64_w _).trans hji30
          by_cases c31 : 0 ≤ (ji30)
          ·rw [if_pos c31] at H
           have c31b0 : decide (0 ≤ (ji30)) = true := decide_eq_true c31
           clear c31
           by_cases c32 : (ji30) < (l0.length : Int)
           ·rw [if_pos c32] at H
            have c32b0 : decide ((ji30) < (l0.length : Int)) = true := decide_eq_true c32
            clear c32
            by_cases c33 : ((rd_T47 l0 x5_1).f0) ≤ ((rd_T47 l0 (ji30)).f1)
            ·rw [if_pos c33] at H
             have c33b0 : decide (((rd_T47 l0 x5_1).f0) ≤ ((rd_T47 l0 (ji30)).f1)) = true := decide_eq_true c33
             clear c33
             obtain rfl := Option.some.inj H
             have hcz34_0 : wc.cell? ⟨gb310, 0, none⟩ = some (.int .i64 ((rd_T47 l0 x5_1).f0)) := (blk_cell BK310.out 0).trans rfl
             have hcz34_1 : wc.cell? ⟨gb310, 1, none⟩ = some (.int .i64 ((rd_T47 l0 x5_1).f1)) := (blk_cell BK310.out 1).trans rfl
             have hcz34_2 : wc.cell? ⟨gb310, 2, none⟩ = some (.int .i64 ((rd_T47 l0 x5_1).f2)) := (blk_cell BK310.out 2).trans rfl
             have hfz34_0 := blk_frozen BK310.out 0
             have hfz34_1 := blk_frozen BK310.out 1
             have hfz34_2 := blk_frozen BK310.out 2
             have p311 : 0 ≤ ((ji30) : Int) := of_decide_eq_true (by first | (with_reducible assumption) | assumption)
             have q311 : (ji30) < (l0.length : Int) := of_decide_eq_true (by first | (with_reducible assumption) | assumption)
             obtain ⟨ad311, e311, hx311_0, hx311_1, hx311_2⟩ := at_T47 HR0.out (ji30) p311 q311
             obtain rfl : ad309 = ad311 := (by injection e311)
             replace hx311_0 := (HB.out.cell (World.block_lt_of_cell? w _ hx311_0)).trans hx311_0
             replace hx311_1 := (HB.out.cell (World.block_lt_of_cell? w _ hx311_1)).trans hx311_1
             replace hx311_2 := (HB.out.cell (World.block_lt_of_cell? w _ hx311_2)).trans hx311_2
             replace p311 := eq_true p311
             replace q311 := eq_true q311
             go_wp2
             repeat (go_quiet (fail); try go_wp2)
             go_ret
             exact ⟨by first | rfl | (simp [errW_none, errW_some] <;> rfl) | (simp only [← hji30]; first | rfl | (simp [errW_none, errW_some] <;> rfl)) | (simp [*, errW_none, errW_some] <;> rfl) | (((first | rw [pw_wdiv _ _ (by omega) (by omega)] | rw [pw_wdiv' _ _ (by omega) (by omega)] | rw [Go.IntWalk.wrap64_in _ (by omega)]); repeat (first | rw [pw_wdiv _ _ (by omega) (by omega)] | rw [pw_wdiv' _ _ (by omega) (by omega)] | rw [Go.IntWalk.wrap64_in _ (by omega)])); rfl), by repeat (first | (with_reducible first | exact HB.out | apply below_alloc | apply pw_below_drewN | apply below_drew1 | refine below_set ?_ GE310.out) | exact HB.out)⟩
            ·rw [if_neg c33] at H
             have c33b0 : decide (((rd_T47 l0 x5_1).f0) ≤ ((rd_T47 l0 (ji30)).f1)) = false := decide_eq_false c33
             clear c33
             by_cases c35 : ((rd_T47 l0 x5_1).f0) = (wrap64 (((rd_T47 l0 (ji30)).f1) + 1))
             ·rw [if_pos c35] at H
              have c35b0 : (((rd_T47 l0 x5_1).f0) == (wrap64 (((rd_T47 l0 (ji30)).f1) + 1))) = true := beq_iff_eq.mpr c35
              (try (have c35b0w := c35b0; ((first | rw [pw_wdiv _ _ (by omega) (by omega)] at c35b0w | rw [pw_wdiv' _ _ (by omega) (by omega)] at c35b0w | rw [Go.IntWalk.wrap64_in _ (by omega)] at c35b0w); repeat (first | rw [pw_wdiv _ _ (by omega) (by omega)] at c35b0w | rw [pw_wdiv' _ _ (by omega) (by omega)] at c35b0w | rw [Go.IntWalk.wrap64_in _ (by omega)] at c35b0w))))
              have c35b1 : (((rd_T47 l0 x5_1).f0) != (wrap64 (((rd_T47 l0 (ji30)).f1) + 1))) = false := bne_eq_false_iff_eq.mpr c35
              (try (have c35b1w := c35b1; ((first | rw [pw_wdiv _ _ (by omega) (by omega)] at c35b1w | rw [pw_wdiv' _ _ (by omega) (by omega)] at c35b1w | rw [Go.IntWalk.wrap64_in _ (by omega)] at c35b1w); repeat (first | rw [pw_wdiv _ _ (by omega) (by omega)] at c35b1w | rw [pw_wdiv' _ _ (by omega) (by omega)] at c35b1w | rw [Go.IntWalk.wrap64_in _ (by omega)] at c35b1w))))
              clear c35
              by_cases c36 : ((rd_T47 l0 x5_1).f2) = (wrap64 ((wrap64 ((wrap64 (((rd_T47 l0 (ji30)).f2) + ((rd_T47 l0 (ji30)).f1))) - ((rd_T47 l0 (ji30)).f0))) + 1))
              ·rw [if_pos c36] at H
               have c36b0 : (((rd_T47 l0 x5_1).f2) == (wrap64 ((wrap64 ((wrap64 (((rd_T47 l0 (ji30)).f2) + ((rd_T47 l0 (ji30)).f1))) - ((rd_T47 l0 (ji30)).f0))) + 1))) = true := beq_iff_eq.mpr c36
               (try (have c36b0w := c36b0; ((first | rw [pw_wdiv _ _ (by omega) (by omega)] at c36b0w | rw [pw_wdiv' _ _ (by omega) (by omega)] at c36b0w | rw [Go.IntWalk.wrap64_in _ (by omega)] at c36b0w); repeat (first | rw [pw_wdiv _ _ (by omega) (by omega)] at c36b0w | rw [pw_wdiv' _ _ (by omega) (by omega)] at c36b0w | rw [Go.IntWalk.wrap64_in _ (by omega)] at c36b0w))))
               have c36b1 : (((rd_T47 l0 x5_1).f2) != (wrap64 ((wrap64 ((wrap64 (((rd_T47 l0 (ji30)).f2) + ((rd_T47 l0 (ji30)).f1))) - ((rd_T47 l0 (ji30)).f0))) + 1))) = false := bne_eq_false_iff_eq.mpr c36
               (try (have c36b1w := c36b1; ((first | rw [pw_wdiv _ _ (by omega) (by omega)] at c36b1w | rw [pw_wdiv' _ _ (by omega) (by omega)] at c36b1w | rw [Go.IntWalk.wrap64_in _ (by omega)] at c36b1w); repeat (first | rw [pw_wdiv _ _ (by omega) (by omega)] at c36b1w | rw [pw_wdiv' _ _ (by omega) (by omega)] at c36b1w | rw [Go.IntWalk.wrap64_in _ (by omega)] at c36b1w))))
               clear c36
               obtain rfl := Option.some.inj H
               have hcz37_0 : wc.cell? ⟨gb310, 0, none⟩ = some (.int .i64 ((rd_T47 l0 x5_1).f0)) := (blk_cell BK310.out 0).trans rfl
               have hcz37_1 : wc.cell? ⟨gb310, 1, none⟩ = some (.int .i64 ((rd_T47 l0 x5_1).f1)) := (blk_cell BK310.out 1).trans rfl
               have hcz37_2 : wc.cell? ⟨gb310, 2, none⟩ = some (.int .i64 ((rd_T47 l0 x5_1).f2)) := (blk_cell BK310.out 2).trans rfl
               have hfz37_0 := blk_frozen BK310.out 0
               have hfz37_1 := blk_frozen BK310.out 1
               have hfz37_2 := blk_frozen BK310.out 2
               have p311 : 0 ≤ ((ji30) : Int) := of_decide_eq_true (by first | (with_reducible assumption) | assumption)
               have q311 : (ji30) < (l0.length : Int) := of_decide_eq_true (by first | (with_reducible assumption) | assumption)
               obtain ⟨ad311, e311, hx311_0, hx311_1, hx311_2⟩ := at_T47 HR0.out (ji30) p311 q311
               obtain rfl : ad309 = ad311 := (by injection e311)
               replace hx311_0 := (HB.out.cell (World.block_lt_of_cell? w _ hx311_0)).trans hx311_0
               replace hx311_1 := (HB.out.cell (World.block_lt_of_cell? w _ hx311_1)).trans hx311_1
               replace hx311_2 := (HB.out.cell (World.block_lt_of_cell? w _ hx311_2)).trans hx311_2
               replace p311 := eq_true p311
               replace q311 := eq_true q311
               have p312 : 0 ≤ ((ji30) : Int) := of_decide_eq_true (by first | (with_reducible assumption) | assumption)
               have q312 : (ji30) < (l0.length : Int) := of_decide_eq_true (by first | (with_reducible assumption) | assumption)
               obtain ⟨ad312, e312, hx312_0, hx312_1, hx312_2⟩ := at_T47 HR0.out (ji30) p312 q312
               obtain rfl : ad309 = ad312 := (by injection e312)
               replace hx312_0 := (HB.out.cell (World.block_lt_of_cell? w _ hx312_0)).trans hx312_0
               replace hx312_1 := (HB.out.cell (World.block_lt_of_cell? w _ hx312_1)).trans hx312_1
               replace hx312_2 := (HB.out.cell (World.block_lt_of_cell? w _ hx312_2)).trans hx312_2
               replace p312 := eq_true p312
               replace q312 := eq_true q312
               have p313 : 0 ≤ ((ji30) : Int) := of_decide_eq_true (by first | (with_reducible assumption) | assumption)
               have q313 : (ji30) < (l0.length : Int) := of_decide_eq_true (by first | (with_reducible assumption) | assumption)
               obtain ⟨ad313, e313, hx313_0, hx313_1, hx313_2⟩ := at_T47 HR0.out (ji30) p313 q313
               obtain rfl : ad309 = ad313 := (by injection e313)
               replace hx313_0 := (HB.out.cell (World.block_lt_of_cell? w _ hx313_0)).trans hx313_0
               replace hx313_1 := (HB.out.cell (World.block_lt_of_cell? w _ hx313_1)).trans hx313_1
               replace hx313_2 := (HB.out.cell (World.block_lt_of_cell? w _ hx313_2)).trans hx313_2
               replace p313 := eq_true p313
               replace q313 := eq_true q313
               have p314 : 0 ≤ ((ji30) : Int) := of_decide_eq_true (by first | (with_reducible assumption) | assumption)
               have q314 : (ji30) < (l0.length : Int) := of_decide_eq_true (by first | (with_reducible assumption) | assumption)
               obtain ⟨ad314, e314, hx314_0, hx314_1, hx314_2⟩ := at_T47 HR0.out (ji30) p314 q314
               obtain rfl : ad309 = ad314 := (by injection e314)
               replace hx314_0 := (HB.out.cell (World.block_lt_of_cell? w _ hx314_0)).trans hx314_0
               replace hx314_1 := (HB.out.cell (World.block_lt_of_cell? w _ hx314_1)).trans hx314_1
               replace hx314_2 := (HB.out.cell (World.block_lt_of_cell? w _ hx314_2)).trans hx314_2
               replace p314 := eq_true p314
               replace q314 := eq_true q314
               have p315 : 0 ≤ ((ji30) : Int) := of_decide_eq_true (by first | (with_reducible assumption) | assumption)
               have q315 : (ji30) < (l0.length : Int) := of_decide_eq_true (by first | (with_reducible assumption) | assumption)
               obtain ⟨ad315, e315, hx315_0, hx315_1, hx315_2⟩ := at_T47 HR0.out (ji30) p315 q315
               obtain rfl : ad309 = ad315 := (by injection e315)
               replace hx315_0 := (HB.out.cell (World.block_lt_of_cell? w _ hx315_0)).trans hx315_0
               replace hx315_1 := (HB.out.cell (World.block_lt_of_cell? w _ hx315_1)).trans hx315_1
               replace hx315_2 := (HB.out.cell (World.block_lt_of_cell? w _ hx315_2)).trans hx315_2
               replace p315 := eq_true p315
               replace q315 := eq_true q315
               go_wp2
               repeat (go_quiet (fail); try go_wp2)
               go_ret
               exact ⟨by first | rfl | (simp [errW_none, errW_some] <;> rfl) | (simp only [← hji30]; first | rfl | (simp [errW_none, errW_some] <;> rfl)) | (simp [*, errW_none, errW_some] <;> rfl) | (((first | rw [pw_wdiv _ _ (by omega) (by omega)] | rw [pw_wdiv' _ _ (by omega) (by omega)] | rw [Go.IntWalk.wrap64_in _ (by omega)]); repeat (first | rw [pw_wdiv _ _ (by omega) (by omega)] | rw [pw_wdiv' _ _ (by omega) (by omega)] | rw [Go.IntWalk.wrap64_in _ (by omega)])); rfl), by repeat (first | (with_reducible first | exact HB.out | apply below_alloc | apply pw_below_drewN | apply below_drew1 | refine below_set ?_ GE310.out) | exact HB.out)⟩
              ·rw [if_neg c36] at H
               have c36b0 : (((rd_T47 l0 x5_1).f2) == (wrap64 ((wrap64 ((wrap64 (((rd_T47 l0 (ji30)).f2) + ((rd_T47 l0 (ji30)).f1))) - ((rd_T47 l0 (ji30)).f0))) + 1))) = false := beq_eq_false_iff_ne.mpr c36
               (try (have c36b0w := c36b0; ((first | rw [pw_wdiv _ _ (by omega) (by omega)] at c36b0w | rw [pw_wdiv' _ _ (by omega) (by omega)] at c36b0w | rw [Go.IntWalk.wrap64_in _ (by omega)] at c36b0w); repeat (first | rw [pw_wdiv _ _ (by omega) (by omega)] at c36b0w | rw [pw_wdiv' _ _ (by omega) (by omega)] at c36b0w | rw [Go.IntWalk.wrap64_in _ (by omega)] at c36b0w))))
               have c36b1 : (((rd_T47 l0 x5_1).f2) != (wrap64 ((wrap64 ((wrap64 (((rd_T47 l0 (ji30)).f2) + ((rd_T47 l0 (ji30)).f1))) - ((rd_T47 l0 (ji30)).f0))) + 1))) = true := bne_iff_ne.mpr c36
               (try (have c36b1w := c36b1; ((first | rw [pw_wdiv _ _ (by omega) (by omega)] at c36b1w | rw [pw_wdiv' _ _ (by omega) (by omega)] at c36b1w | rw [Go.IntWalk.wrap64_in _ (by omega)] at c36b1w); repeat (first | rw [pw_wdiv _ _ (by omega) (by omega)] at c36b1w | rw [pw_wdiv' _ _ (by omega) (by omega)] at c36b1w | rw [Go.IntWalk.wrap64_in _ (by omega)] at c36b1w))))
               have H' := Aside0.mk H
               clear H
               have hcz38_0 : wc.cell? ⟨gb310, 0, none⟩ = some (.int .i64 ((rd_T47 l0 x5_1).f0)) := (blk_cell BK310.out 0).trans rfl
               have hcz38_1 : wc.cell? ⟨gb310, 1, none⟩ = some (.int .i64 ((rd_T47 l0 x5_1).f1)) := (blk_cell BK310.out 1).trans rfl
               have hcz38_2 : wc.cell? ⟨gb310, 2, none⟩ = some (.int .i64 ((rd_T47 l0 x5_1).f2)) := (blk_cell BK310.out 2).trans rfl
               have hfz38_0 := blk_frozen BK310.out 0
               have hfz38_1 := blk_frozen BK310.out 1
               have hfz38_2 := blk_frozen BK310.out 2
               have p311 : 0 ≤ ((ji30) : Int) := of_decide_eq_true (by first | (with_reducible assumption) | assumption)
               have q311 : (ji30) < (l0.length : Int) := of_decide_eq_true (by first | (with_reducible assumption) | assumption)
               obtain ⟨ad311, e311, hx311_0, hx311_1, hx311_2⟩ := at_T47 HR0.out (ji30) p311 q311
               obtain rfl : ad309 = ad311 := (by injection e311)
               replace hx311_0 := (HB.out.cell (World.block_lt_of_cell? w _ hx311_0)).trans hx311_0
               replace hx311_1 := (HB.out.cell (World.block_lt_of_cell? w _ hx311_1)).trans hx311_1
               replace hx311_2 := (HB.out.cell (World.block_lt_of_cell? w _ hx311_2)).trans hx311_2
               replace p311 := eq_true p311
               replace q311 := eq_true q311
               have p312 : 0 ≤ ((ji30) : Int) := of_decide_eq_true (by first | (with_reducible assumption) | assumption)
               have q312 : (ji30) < (l0.length : Int) := of_decide_eq_true (by first | (with_reducible assumption) | assumption)
               obtain ⟨ad312, e312, hx312_0, hx312_1, hx312_2⟩ := at_T47 HR0.out (ji30) p312 q312
               obtain rfl : ad309 = ad312 := (by injection e312)
               replace hx312_0 := (HB.out.cell (World.block_lt_of_cell? w _ hx312_0)).trans hx312_0
               replace hx312_1 := (HB.out.cell (World.block_lt_of_cell? w _ hx312_1)).trans hx312_1
               replace hx312_2 := (HB.out.cell (World.block_lt_of_cell? w _ hx312_2)).trans hx312_2
               replace p312 := eq_true p312
               replace q312 := eq_true q312
               have p313 : 0 ≤ ((ji30) : Int) := of_decide_eq_true (by first | (with_reducible assumption) | assumption)
               have q313 : (ji30) < (l0.length : Int) := of_decide_eq_true (by first | (with_reducible assumption) | assumption)
               obtain ⟨ad313, e313, hx313_0, hx313_1, hx313_2⟩ := at_T47 HR0.out (ji30) p313 q313
               obtain rfl : ad309 = ad313 := (by injection e313)
               replace hx313_0 := (HB.out.cell (World.block_lt_of_cell? w _ hx313_0)).trans hx313_0
               replace hx313_1 := (HB.out.cell (World.block_lt_of_cell? w _ hx313_1)).trans hx313_1
               replace hx313_2 := (HB.out.cell (World.block_lt_of_cell? w _ hx313_2)).trans hx313_2
               replace p313 := eq_true p313
               replace q313 := eq_true q313
               have p314 : 0 ≤ ((ji30) : Int) := of_decide_eq_true (by first | (with_reducible assumption) | assumption)
               have q314 : (ji30) < (l0.length : Int) := of_decide_eq_true (by first | (with_reducible assumption) | assumption)
               obtain ⟨ad314, e314, hx314_0, hx314_1, hx314_2⟩ := at_T47 HR0.out (ji30) p314 q314
               obtain rfl : ad309 = ad314 := (by injection e314)
               replace hx314_0 := (HB.out.cell (World.block_lt_of_cell? w _ hx314_0)).trans hx314_0
               replace hx314_1 := (HB.out.cell (World.block_lt_of_cell? w _ hx314_1)).trans hx314_1
               replace hx314_2 := (HB.out.cell (World.block_lt_of_cell? w _ hx314_2)).trans hx314_2
               replace p314 := eq_true p314
               replace q314 := eq_true q314
               have p315 : 0 ≤ ((ji30) : Int) := of_decide_eq_true (by first | (with_reducible assumption) | assumption)
               have q315 : (ji30) < (l0.length : Int) := of_decide_eq_true (by first | (with_reducible assumption) | assumption)
               obtain ⟨ad315, e315, hx315_0, hx315_1, hx315_2⟩ := at_T47 HR0.out (ji30) p315 q315
               obtain rfl : ad309 = ad315 := (by injection e315)
               replace hx315_0 := (HB.out.cell (World.block_lt_of_cell? w _ hx315_0)).trans hx315_0
               replace hx315_1 := (HB.out.cell (World.block_lt_of_cell? w _ hx315_1)).trans hx315_1
               replace hx315_2 := (HB.out.cell (World.block_lt_of_cell? w _ hx315_2)).trans hx315_2
               replace p315 := eq_true p315
               replace q315 := eq_true q315
               go_wp2
               repeat (go_quiet (fail); try go_wp2)
               go_roundg kj5
               case measure => have := HK1.out; have := HJ5.out; omega
               case rel => exact ⟨(wrap64 (x5_1 + 1)), (by first | rfl | (simp; done) | (simp [*]; done)), H', ⟨by have := HK1.out; have := HJ5.out; omega⟩, ⟨by repeat (first | (with_reducible first | exact HB.out | apply below_alloc | apply pw_below_drewN | apply below_drew1 | refine below_set ?_ GE310.out) | exact HB.out)⟩⟩
             ·rw [if_neg c35] at H
              have c35b0 : (((rd_T47 l0 x5_1).f0) == (wrap64 (((rd_T47 l0 (ji30)).f1) + 1))) = false := beq_eq_false_iff_ne.mpr c35
              (try (have c35b0w := c35b0; ((first | rw [pw_wdiv _ _ (by omega) (by omega)] at c35b0w | rw [pw_wdiv' _ _ (by omega) (by omega)] at c35b0w | rw [Go.IntWalk.wrap64_in _ (by omega)] at c35b0w); repeat (first | rw [pw_wdiv _ _ (by omega) (by omega)] at c35b0w | rw [pw_wdiv' _ _ (by omega) (by omega)] at c35b0w | rw [Go.IntWalk.wrap64_in _ (by omega)] at c35b0w))))
              have c35b1 : (((rd_T47 l0 x5_1).f0) != (wrap64 (((rd_T47 l0 (ji30)).f1) + 1))) = true := bne_iff_ne.mpr c35
              (try (have c35b1w := c35b1; ((first | rw [pw_wdiv _ _ (by omega) (by omega)] at c35b1w | rw [pw_wdiv' _ _ (by omega) (by omega)] at c35b1w | rw [Go.IntWalk.wrap64_in _ (by omega)] at c35b1w); repeat (first | rw [pw_wdiv _ _ (by omega) (by omega)] at c35b1w | rw [pw_wdiv' _ _ (by omega) (by omega)] at c35b1w | rw [Go.IntWalk.wrap64_in _ (by omega)] at c35b1w))))
              have H' := Aside0.mk H
              clear H
              have hcz39_0 : wc.cell? ⟨gb310, 0, none⟩ = some (.int .i64 ((rd_T47 l0 x5_1).f0)) := (blk_cell BK310.out 0).trans rfl
              have hcz39_1 : wc.cell? ⟨gb310, 1, none⟩ = some (.int .i64 ((rd_T47 l0 x5_1).f1)) := (blk_cell BK310.out 1).trans rfl
              have hcz39_2 : wc.cell? ⟨gb310, 2, none⟩ = some (.int .i64 ((rd_T47 l0 x5_1).f2)) := (blk_cell BK310.out 2).trans rfl
              have hfz39_0 := blk_frozen BK310.out 0
              have hfz39_1 := blk_frozen BK310.out 1
              have hfz39_2 := blk_frozen BK310.out 2
              have p311 : 0 ≤ ((ji30) : Int) := of_decide_eq_true (by first | (with_reducible assumption) | assumption)
              have q311 : (ji30) < (l0.length : Int) := of_decide_eq_true (by first | (with_reducible assumption) | assumption)
              obtain ⟨ad311, e311, hx311_0, hx311_1, hx311_2⟩ := at_T47 HR0.out (ji30) p311 q311
              obtain rfl : ad309 = ad311 := (by injection e311)
              replace hx311_0 := (HB.out.cell (World.block_lt_of_cell? w _ hx311_0)).trans hx311_0
              replace hx311_1 := (HB.out.cell (World.block_lt_of_cell? w _ hx311_1)).trans hx311_1
              replace hx311_2 := (HB.out.cell (World.block_lt_of_cell? w _ hx311_2)).trans hx311_2
              replace p311 := eq_true p311
              replace q311 := eq_true q311
              have p312 : 0 ≤ ((ji30) : Int) := of_decide_eq_true (by first | (with_reducible assumption) | assumption)
              have q312 : (ji30) < (l0.length : Int) := of_decide_eq_true (by first | (with_reducible assumption) | assumption)
              obtain ⟨ad312, e312, hx312_0, hx312_1, hx312_2⟩ := at_T47 HR0.out (ji30) p312 q312
              obtain rfl : ad309 = ad312 := (by injection e312)
              replace hx312_0 := (HB.out.cell (World.block_lt_of_cell? w _ hx312_0)).trans hx312_0
              replace hx312_1 := (HB.out.cell (World.block_lt_of_cell? w _ hx312_1)).trans hx312_1
              replace hx312_2 := (HB.out.cell (World.block_lt_of_cell? w _ hx312_2)).trans hx312_2
              replace p312 := eq_true p312
              replace q312 := eq_true q312
              go_wp2
              repeat (go_quiet (fail); try go_wp2)
              go_roundg kj5
              case measure => have := HK1.out; have := HJ5.out; omega
              case rel => exact ⟨(wrap64 (x5_1 + 1)), (by first | rfl | (simp; done) | (simp [*]; done)), H', ⟨by have := HK1.out; have := HJ5.out; omega⟩, ⟨by repeat (first | (with_reducible first | exact HB.out | apply below_alloc | apply pw_below_drewN | apply below_drew1 | refine below_set ?_ GE310.out) | exact HB.out)⟩⟩
           ·rw [if_neg c32] at H
            exact absurd H (by simp)
          ·rw [if_neg c31] at H
           exact absurd H (by simp)
         ·rw [if_neg c29] at H
          have c29b0 : decide (0 < x5_1) = false := decide_eq_false c29
          clear c29
          have H' := Aside0.mk H
          clear H
          go_wp2
          repeat (go_quiet (fail); try go_wp2)
          go_roundg kj5
          case measure => have := HK1.out; have := HJ5.out; omega
          case rel => exact ⟨(wrap64 (x5_1 + 1)), (by first | rfl | (simp; done) | (simp [*]; done)), H', ⟨by have := HK1.out; have := HJ5.out; omega⟩, ⟨by repeat (first | (with_reducible first | exact HB.out | apply below_alloc | apply pw_below_drewN | apply below_drew1 | refine below_set ?_ GE310.out) | exact HB.out)⟩⟩
     ·rw [if_neg c5] at H
      exact absurd H (by simp)
    ·rw [if_neg c4] at H
     have c4b0 : decide (x5_1 < (l0.length : Int)) = false := decide_eq_false c4
     clear c4
     obtain rfl := Option.some.inj H
     go_wp2
     repeat (go_quiet (fail); try go_wp2)
     go_ret
     exact ⟨by first | rfl | (simp [errW_none, errW_some] <;> rfl) | (simp [*, errW_none, errW_some] <;> rfl) | (((first | rw [pw_wdiv _ _ (by omega) (by omega)] | rw [pw_wdiv' _ _ (by omega) (by omega)] | rw [Go.IntWalk.wrap64_in _ (by omega)]); repeat (first | rw [pw_wdiv _ _ (by omega) (by omega)] | rw [pw_wdiv' _ _ (by omega) (by omega)] | rw [Go.IntWalk.wrap64_in _ (by omega)])); rfl), by repeat (first | (with_reducible first | exact HB.out | apply below_alloc | apply pw_below_drewN | apply below_drew1) | exact HB.out)⟩

end Go.Proofs.Ytldcgkkbmnahiaa.Px
