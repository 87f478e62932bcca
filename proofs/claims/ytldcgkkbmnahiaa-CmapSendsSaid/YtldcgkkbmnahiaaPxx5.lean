-- Lean text written by this session's own program (wip/tools/myprint.py) for this claim
import Derived.Test.YtldcgkkbmnahiaaPxx0
namespace Go.Proofs.Ytldcgkkbmnahiaa.Px
open Go.RowKit Go.Proofs.YtldcgkkbmnahiaaW.PrintWords Go.Proofs.YtldcgkkbmnahiaaW.PrintLast Go.Proofs.YtldcgkkbmnahiaaW.PrintMore
attribute [local go_sem] pw_max2 pw_min2 max_two min_two max_three min_three max_four min_four   -- for this text's walks alone
set_option linter.unusedVariables false
set_option linter.unusedSimpArgs false

/-! ### cmap_Good: function 14 -/
mutual
def cmap_Good.l0 : Nat → List (S47) → Int → List (S47) → Int → Int → Option (Bool)
 | 0, _, _, _, _, _ => none
 | k + 1, x0, x1, x11, x12, x13 => if x13 < x12 then (if 0 ≤ x13 then (if x13 < (x11.length : Int) then (if ((rd_T47 x11 x13).f0) < 0 then (cmap_Good.j1 k x0 x1 x13 x11 x12 x13 true ((rd_T47 x11 x13).f0) ((rd_T47 x11 x13).f1) ((rd_T47 x11 x13).f2)) else (if ((rd_T47 x11 x13).f0) > ((rd_T47 x11 x13).f1) then (cmap_Good.j1 k x0 x1 x13 x11 x12 x13 true ((rd_T47 x11 x13).f0) ((rd_T47 x11 x13).f1) ((rd_T47 x11 x13).f2)) else (if ((rd_T47 x11 x13).f1) > 1114111 then (cmap_Good.j1 k x0 x1 x13 x11 x12 x13 true ((rd_T47 x11 x13).f0) ((rd_T47 x11 x13).f1) ((rd_T47 x11 x13).f2)) else (if ((rd_T47 x11 x13).f0) ≤ 57343 then (cmap_Good.j1 k x0 x1 x13 x11 x12 x13 (decide (((rd_T47 x11 x13).f1) ≥ 55296)) ((rd_T47 x11 x13).f0) ((rd_T47 x11 x13).f1) ((rd_T47 x11 x13).f2)) else (cmap_Good.j1 k x0 x1 x13 x11 x12 x13 false ((rd_T47 x11 x13).f0) ((rd_T47 x11 x13).f1) ((rd_T47 x11 x13).f2)))))) else (none)) else (none)) else (some true)
def cmap_Good.j1 : Nat → List (S47) → Int → Int → List (S47) → Int → Int → Bool → Int → Int → Int → Option (Bool)
 | 0, _, _, _, _, _, _, _, _, _, _ => none
 | k + 1, x0, x1, x5, x11, x12, x13, x42, x117000, x117001, x117002 => if x42 = true then (some false) else (if x117002 < 1 then (cmap_Good.j2 k x0 x1 x5 x11 x12 x13 true x117000 x117001 x117002) else (if x117002 ≥ x1 then (cmap_Good.j2 k x0 x1 x5 x11 x12 x13 true x117000 x117001 x117002) else (cmap_Good.j2 k x0 x1 x5 x11 x12 x13 (decide ((wrap64 (x117001 - x117000)) ≥ (wrap64 (x1 - x117002)))) x117000 x117001 x117002)))
def cmap_Good.j2 : Nat → List (S47) → Int → Int → List (S47) → Int → Int → Bool → Int → Int → Int → Option (Bool)
 | 0, _, _, _, _, _, _, _, _, _, _ => none
 | k + 1, x0, x1, x5, x11, x12, x13, x63, x117000, x117001, x117002 => if x63 = true then (some false) else (if x5 = 0 then (cmap_Good.l0 k x0 x1 x11 x12 (wrap64 (x13 + 1))) else (if 0 ≤ (wrap64 (x5 - 1)) then (if (wrap64 (x5 - 1)) < (x0.length : Int) then (if x117000 ≤ ((rd_T47 x0 (wrap64 (x5 - 1))).f1) then (some false) else (if x117000 = (wrap64 (((rd_T47 x0 (wrap64 (x5 - 1))).f1) + 1)) then (if x117002 = (wrap64 ((wrap64 ((wrap64 (((rd_T47 x0 (wrap64 (x5 - 1))).f2) + ((rd_T47 x0 (wrap64 (x5 - 1))).f1))) - ((rd_T47 x0 (wrap64 (x5 - 1))).f0))) + 1)) then (some false) else (cmap_Good.l0 k x0 x1 x11 x12 (wrap64 (x13 + 1)))) else (cmap_Good.l0 k x0 x1 x11 x12 (wrap64 (x13 + 1))))) else (none)) else (none)))
end
def cmap_Good.f (k : Nat) (l0 : List (S47)) (a1 : Int) : Option (Bool) := if (l0.length : Int) > 4096 then (some false) else (cmap_Good.l0 k l0 a1 l0 (l0.length : Int) 0)
theorem cmap_Good.mono_l : ∀ k, (∀ y0 y1 y2 y3 y4, LeO (cmap_Good.l0 k y0 y1 y2 y3 y4) (cmap_Good.l0 (k + 1) y0 y1 y2 y3 y4)) ∧ (∀ y0 y1 y2 y3 y4 y5 y6 y7 y8 y9, LeO (cmap_Good.j1 k y0 y1 y2 y3 y4 y5 y6 y7 y8 y9) (cmap_Good.j1 (k + 1) y0 y1 y2 y3 y4 y5 y6 y7 y8 y9)) ∧ (∀ y0 y1 y2 y3 y4 y5 y6 y7 y8 y9, LeO (cmap_Good.j2 k y0 y1 y2 y3 y4 y5 y6 y7 y8 y9) (cmap_Good.j2 (k + 1) y0 y1 y2 y3 y4 y5 y6 y7 y8 y9))
 | 0 => ⟨fun _ _ _ _ _ r h => by simp [cmap_Good.l0] at h, fun _ _ _ _ _ _ _ _ _ _ r h => by simp [cmap_Good.j1] at h, fun _ _ _ _ _ _ _ _ _ _ r h => by simp [cmap_Good.j2] at h⟩
 | k + 1 => by
  obtain ⟨ih0, ih1, ih2⟩ := cmap_Good.mono_l k
  refine ⟨?_, ?_, ?_⟩
  ·intro y0 y1 y2 y3 y4
   unfold cmap_Good.l0
   repeat' first
   | (with_reducible exact ih0 _ _ _ _ _)
   | (with_reducible exact ih1 _ _ _ _ _ _ _ _ _ _)
   | (with_reducible exact ih2 _ _ _ _ _ _ _ _ _ _)
   | (with_reducible exact LeO.refl _)
   | (with_reducible exact LeO.none _)
   | (with_reducible refine LeO.ite ?_ ?_)
   | (with_reducible refine LeO.bind ?_ (fun _ => ?_))
   | exact ih0 _ _ _ _ _
   | exact ih1 _ _ _ _ _ _ _ _ _ _
   | exact ih2 _ _ _ _ _ _ _ _ _ _
   | exact LeO.none _
   | refine LeO.ite ?_ ?_
   | refine LeO.bind ?_ (fun _ => ?_)
  ·intro y0 y1 y2 y3 y4 y5 y6 y7 y8 y9
   unfold cmap_Good.j1
   repeat' first
   | (with_reducible exact ih0 _ _ _ _ _)
   | (with_reducible exact ih1 _ _ _ _ _ _ _ _ _ _)
   | (with_reducible exact ih2 _ _ _ _ _ _ _ _ _ _)
   | (with_reducible exact LeO.refl _)
   | (with_reducible exact LeO.none _)
   | (with_reducible refine LeO.ite ?_ ?_)
   | (with_reducible refine LeO.bind ?_ (fun _ => ?_))
   | exact ih0 _ _ _ _ _
   | exact ih1 _ _ _ _ _ _ _ _ _ _
   | exact ih2 _ _ _ _ _ _ _ _ _ _
   | exact LeO.none _
   | refine LeO.ite ?_ ?_
   | refine LeO.bind ?_ (fun _ => ?_)
  ·intro y0 y1 y2 y3 y4 y5 y6 y7 y8 y9
   unfold cmap_Good.j2
   repeat' first
   | (with_reducible exact ih0 _ _ _ _ _)
   | (with_reducible exact ih1 _ _ _ _ _ _ _ _ _ _)
   | (with_reducible exact ih2 _ _ _ _ _ _ _ _ _ _)
   | (with_reducible exact LeO.refl _)
   | (with_reducible exact LeO.none _)
   | (with_reducible refine LeO.ite ?_ ?_)
   | (with_reducible refine LeO.bind ?_ (fun _ => ?_))
   | exact ih0 _ _ _ _ _
   | exact ih1 _ _ _ _ _ _ _ _ _ _
   | exact ih2 _ _ _ _ _ _ _ _ _ _
   | exact LeO.none _
   | refine LeO.ite ?_ ?_
   | refine LeO.bind ?_ (fun _ => ?_)
theorem cmap_Good.mono : ∀ a0 a1 k, LeO (cmap_Good.f k a0 a1) (cmap_Good.f (k + 1) a0 a1) := by
 intro a0 a1 k
 obtain ⟨ih0, ih1, ih2⟩ := cmap_Good.mono_l k
 unfold cmap_Good.f
 repeat' first
   | (with_reducible exact ih0 _ _ _ _ _)
   | (with_reducible exact ih1 _ _ _ _ _ _ _ _ _ _)
   | (with_reducible exact ih2 _ _ _ _ _ _ _ _ _ _)
   | (with_reducible exact LeO.refl _)
   | (with_reducible exact LeO.none _)
   | (with_reducible refine LeO.ite ?_ ?_)
   | (with_reducible refine LeO.bind ?_ (fun _ => ?_))
   | exact ih0 _ _ _ _ _
   | exact ih1 _ _ _ _ _ _ _ _ _ _
   | exact ih2 _ _ _ _ _ _ _ _ _ _
   | exact LeO.none _
   | refine LeO.ite ?_ ?_
   | refine LeO.bind ?_ (fun _ => ?_)
set_option maxHeartbeats 8000000 in
set_option maxRecDepth 100000 in
theorem cmap_Good.calls (k : Nat) (A0 : Option Addr) (c0 : Nat) (l0 : List (S47)) (a1 : Int) (r : Bool) (w : World) (hr0 : Kd.C k47 w A0 l0.length l0) (hc0 : l0.length ≤ c0) (h : cmap_Good.f k l0 a1 = some r) :
  Calls Try.prog 14 #[.slice A0 l0.length c0, .int .i64 a1] w fun e w' => e = .returned (.bool r) ∧ Below w.heap.size w w' := by
 have hu47 := Try.underlying47
 have HR0 := Aside0.mk hr0
 have HC0 := Aside0.mk hc0
 clear hr0 hc0
 have HB := Aside0.mk (Below.refl w.heap.size w)
 have H : (if (l0.length : Int) > 4096 then (some false) else (cmap_Good.l0 k l0 a1 l0 (l0.length : Int) 0)) = some r := h
 clear h
 by_cases c3 : (l0.length : Int) > 4096
 ·rw [if_pos c3] at H
  have c3b0 : decide (4096 < (l0.length : Int)) = true := decide_eq_true c3
  have c3b1 : decide (4096 < l0.length) = true := decide_eq_true (by omega)
  clear c3
  obtain rfl := Option.some.inj H
  go_enter Try.func14, Try.ntmps14
  go_wp2
  go_ret
  exact ⟨by first | rfl | (simp [errW_none, errW_some] <;> rfl) | (simp [*, errW_none, errW_some] <;> rfl) | (((first | rw [pw_wdiv _ _ (by omega) (by omega)] | rw [pw_wdiv' _ _ (by omega) (by omega)] | rw [Go.IntWalk.wrap64_in _ (by omega)]); repeat (first | rw [pw_wdiv _ _ (by omega) (by omega)] | rw [pw_wdiv' _ _ (by omega) (by omega)] | rw [Go.IntWalk.wrap64_in _ (by omega)])); rfl), by repeat (first | (with_reducible first | exact HB.out | apply below_alloc | apply pw_below_drewN | apply below_drew1) | exact HB.out)⟩
 ·rw [if_neg c3] at H
  have c3b0 : decide (4096 < (l0.length : Int)) = false := decide_eq_false c3
  have c3b1 : decide (4096 < l0.length) = false := decide_eq_false (by omega)
  clear c3
  have H' := Aside0.mk H
  clear H
  go_enter Try.func14, Try.ntmps14
  go_wp2
  go_loopg [13] k (fun kq v13 w' => ∃ (x13_1 : Int), v13 = .int .i64 x13_1 ∧ Aside0 (cmap_Good.l0 kq l0 a1 l0 (l0.length : Int) x13_1 = some r) ∧ Aside0 (kq ≤ k) ∧ Aside0 (Below w.heap.size w w'))
  case atStart => exact ⟨(0), (by first | rfl | (simp; done) | (simp [*]; done)), H', ⟨Nat.le_refl _⟩, ⟨by repeat (first | (with_reducible first | exact HB.out | apply below_alloc | apply pw_below_drewN | apply below_drew1) | exact HB.out)⟩⟩
  case round =>
   clear H'
   try clear c1
   try clear p2
   try clear c3
   try clear c3b0
   try clear c3b1
   obtain ⟨x13_1, rfl, HA, HK1, HB⟩ := hrel
   cases gk with
   | zero => exact absurd HA.out (by simp [cmap_Good.l0])
   | succ k1 =>
    have H := HA.out
    clear HA
    simp only [cmap_Good.l0] at H
    by_cases c4 : x13_1 < (l0.length : Int)
    ·rw [if_pos c4] at H
     have c4b0 : decide (x13_1 < (l0.length : Int)) = true := decide_eq_true c4
     clear c4
     by_cases c5 : 0 ≤ x13_1
     ·rw [if_pos c5] at H
      have c5b0 : decide (0 ≤ x13_1) = true := decide_eq_true c5
      clear c5
      by_cases c6 : x13_1 < (l0.length : Int)
      ·rw [if_pos c6] at H
       have c6b0 : decide (x13_1 < (l0.length : Int)) = true := decide_eq_true c6
       clear c6
       have HC7 := Aside0.mk H
       clear H
       have p115 : 0 ≤ (x13_1 : Int) := of_decide_eq_true (by first | (with_reducible assumption) | assumption)
       have q115 : x13_1 < (l0.length : Int) := of_decide_eq_true (by first | (with_reducible assumption) | assumption)
       obtain ⟨ad115, e115, hx115_0, hx115_1, hx115_2⟩ := at_T47 HR0.out x13_1 p115 q115
       cases e115
       replace hx115_0 := (HB.out.cell (World.block_lt_of_cell? w _ hx115_0)).trans hx115_0
       replace hx115_1 := (HB.out.cell (World.block_lt_of_cell? w _ hx115_1)).trans hx115_1
       replace hx115_2 := (HB.out.cell (World.block_lt_of_cell? w _ hx115_2)).trans hx115_2
       replace p115 := eq_true p115
       replace q115 := eq_true q115
       go_upto_region 6 with (first | ((with_reducible refine gate_dst (N := 6) rfl ?_); refine box_event ?hg (N := 6) ?hd (cs := #[.int .i64 0, .int .i64 0, .int .i64 0]) (t := 47) ?hr ?_; (case hd => rfl); (case hg => rfl); (case hr => first | (go_simp; done) | (go_simp; rfl)); intro gb116 hg w8 hbox hb; have n0_ := Aside0.mk (below_step (by repeat (first | (with_reducible first | exact HB.out | apply below_alloc | apply pw_below_drewN | apply below_drew1) | exact HB.out)) hb); have n1_ := Aside0.mk (hbox); have n2_ := Aside0.mk ((by rw [hg]; exact (below_size (by repeat (first | (with_reducible first | exact HB.out | apply below_alloc | apply pw_below_drewN | apply below_drew1) | exact HB.out))) : w.heap.size ≤ gb116)); have n3_ := Aside0.mk ((by rw [hg]; exact (below_size (by repeat (first | (with_reducible first | exact HB.out | apply below_alloc | apply pw_below_drewN | apply below_drew1) | exact HB.out))) : w.heap.size ≤ gb116)); clear HB; have HB := n0_; have BK116 := n1_; have GW116 := n2_; have GE116 := n3_; clear n0_ n1_ n2_ n3_; clear hb hbox hg; have hcz9_0 : w8.cell? ⟨gb116, 0, none⟩ = some (.int .i64 0) := (blk_cell BK116.out 0).trans rfl; have hcz9_1 : w8.cell? ⟨gb116, 1, none⟩ = some (.int .i64 0) := (blk_cell BK116.out 1).trans rfl; have hcz9_2 : w8.cell? ⟨gb116, 2, none⟩ = some (.int .i64 0) := (blk_cell BK116.out 2).trans rfl; have hfz9_0 := blk_frozen BK116.out 0; have hfz9_1 := blk_frozen BK116.out 1; have hfz9_2 := blk_frozen BK116.out 2))
       (try simp only [Act.put, List.setIfInBounds_toArray, List.set_cons_zero, List.set_cons_succ])
       go_cut [42] (fun v42 wc => ∃ (kq : Nat) (x42_6 : Bool), v42 = .bool x42_6 ∧ Aside0 (cmap_Good.j1 kq l0 a1 x13_1 l0 (l0.length : Int) x13_1 x42_6 ((rd_T47 l0 x13_1).f0) ((rd_T47 l0 x13_1).f1) ((rd_T47 l0 x13_1).f2) = some r) ∧ Aside0 (kq ≤ k1) ∧ Aside0 (wc.heap[gb116]? = some (.cells #[.int .i64 ((rd_T47 l0 x13_1).f0), .int .i64 ((rd_T47 l0 x13_1).f1), .int .i64 ((rd_T47 l0 x13_1).f2)] 47 (0, 0))) ∧ Aside0 (Below w.heap.size w wc))
       case first =>
        have H := HC7.out
        clear HC7
        by_cases c10 : ((rd_T47 l0 x13_1).f0) < 0
        ·rw [if_pos c10] at H
         have c10b0 : decide (((rd_T47 l0 x13_1).f0) < 0) = true := decide_eq_true c10
         clear c10
         (first | rw [c10b0] | (simp only [i64_w, i32_w]; rw [c10b0]) | skip)
         have H' := Aside0.mk H
         clear H
         have hcz11_0 : w8.cell? ⟨gb116, 0, none⟩ = some (.int .i64 0) := (blk_cell BK116.out 0).trans rfl
         have hcz11_1 : w8.cell? ⟨gb116, 1, none⟩ = some (.int .i64 0) := (blk_cell BK116.out 1).trans rfl
         have hcz11_2 : w8.cell? ⟨gb116, 2, none⟩ = some (.int .i64 0) := (blk_cell BK116.out 2).trans rfl
         have hfz11_0 := blk_frozen BK116.out 0
         have hfz11_1 := blk_frozen BK116.out 1
         have hfz11_2 := blk_frozen BK116.out 2
         go_wp2
         go_meet
         case rel => exact ⟨_, (true), (by first | rfl | (simp; done) | (simp [*]; done)), H', ⟨by have := HK1.out; first | omega | exact Nat.le_refl _⟩, ⟨by (with_reducible repeat (first | refine blk_drewN ?_ _ | refine blk_drew ?_ | refine blk_alloc ?_ _)); refine blk_put (cs := #[.int .i64 ((rd_T47 l0 x13_1).f0), .int .i64 ((rd_T47 l0 x13_1).f1), .int .i64 0]) ?_ 2 _ rfl; (with_reducible repeat (first | refine blk_drewN ?_ _ | refine blk_drew ?_ | refine blk_alloc ?_ _)); refine blk_put (cs := #[.int .i64 ((rd_T47 l0 x13_1).f0), .int .i64 0, .int .i64 0]) ?_ 1 _ rfl; (with_reducible repeat (first | refine blk_drewN ?_ _ | refine blk_drew ?_ | refine blk_alloc ?_ _)); refine blk_put (cs := #[.int .i64 0, .int .i64 0, .int .i64 0]) ?_ 0 _ rfl; (with_reducible repeat (first | refine blk_drewN ?_ _ | refine blk_drew ?_ | refine blk_alloc ?_ _)); exact BK116.out⟩, ⟨by repeat (first | (with_reducible first | exact HB.out | apply below_alloc | apply pw_below_drewN | apply below_drew1 | refine below_set ?_ GE116.out) | exact HB.out)⟩⟩
        ·rw [if_neg c10] at H
         have c10b0 : decide (((rd_T47 l0 x13_1).f0) < 0) = false := decide_eq_false c10
         clear c10
         (first | rw [c10b0] | (simp only [i64_w, i32_w]; rw [c10b0]) | skip)
         by_cases c12 : ((rd_T47 l0 x13_1).f0) > ((rd_T47 l0 x13_1).f1)
         ·rw [if_pos c12] at H
          have c12b0 : decide (((rd_T47 l0 x13_1).f1) < ((rd_T47 l0 x13_1).f0)) = true := decide_eq_true c12
          clear c12
          have H' := Aside0.mk H
          clear H
          have hcz13_0 : w8.cell? ⟨gb116, 0, none⟩ = some (.int .i64 0) := (blk_cell BK116.out 0).trans rfl
          have hcz13_1 : w8.cell? ⟨gb116, 1, none⟩ = some (.int .i64 0) := (blk_cell BK116.out 1).trans rfl
          have hcz13_2 : w8.cell? ⟨gb116, 2, none⟩ = some (.int .i64 0) := (blk_cell BK116.out 2).trans rfl
          have hfz13_0 := blk_frozen BK116.out 0
          have hfz13_1 := blk_frozen BK116.out 1
          have hfz13_2 := blk_frozen BK116.out 2
          go_wp2
          go_meet
          case rel => exact ⟨_, (true), (by first | rfl | (simp; done) | (simp [*]; done)), H', ⟨by have := HK1.out; first | omega | exact Nat.le_refl _⟩, ⟨by (with_reducible repeat (first | refine blk_drewN ?_ _ | refine blk_drew ?_ | refine blk_alloc ?_ _)); refine blk_put (cs := #[.int .i64 ((rd_T47 l0 x13_1).f0), .int .i64 ((rd_T47 l0 x13_1).f1), .int .i64 0]) ?_ 2 _ rfl; (with_reducible repeat (first | refine blk_drewN ?_ _ | refine blk_drew ?_ | refine blk_alloc ?_ _)); refine blk_put (cs := #[.int .i64 ((rd_T47 l0 x13_1).f0), .int .i64 0, .int .i64 0]) ?_ 1 _ rfl; (with_reducible repeat (first | refine blk_drewN ?_ _ | refine blk_drew ?_ | refine blk_alloc ?_ _)); refine blk_put (cs := #[.int .i64 0, .int .i64 0, .int .i64 0]) ?_ 0 _ rfl; (with_reducible repeat (first | refine blk_drewN ?_ _ | refine blk_drew ?_ | refine blk_alloc ?_ _)); exact BK116.out⟩, ⟨by repeat (first | (with_reducible first | exact HB.out | apply below_alloc | apply pw_below_drewN | apply below_drew1 | refine below_set ?_ GE116.out) | exact HB.out)⟩⟩
         ·rw [if_neg c12] at H
          have c12b0 : decide (((rd_T47 l0 x13_1).f1) < ((rd_T47 l0 x13_1).f0)) = false := decide_eq_false c12
          clear c12
          by_cases c14 : ((rd_T47 l0 x13_1).f1) > 1114111
          ·rw [if_pos c14] at H
           have c14b0 : decide (1114111 < ((rd_T47 l0 x13_1).f1)) = true := decide_eq_true c14
           clear c14
           have H' := Aside0.mk H
           clear H
           have hcz15_0 : w8.cell? ⟨gb116, 0, none⟩ = some (.int .i64 0) := (blk_cell BK116.out 0).trans rfl
           have hcz15_1 : w8.cell? ⟨gb116, 1, none⟩ = some (.int .i64 0) := (blk_cell BK116.out 1).trans rfl
           have hcz15_2 : w8.cell? ⟨gb116, 2, none⟩ = some (.int .i64 0) := (blk_cell BK116.out 2).trans rfl
           have hfz15_0 := blk_frozen BK116.out 0
           have hfz15_1 := blk_frozen BK116.out 1
           have hfz15_2 := blk_frozen BK116.out 2
           go_wp2
           go_meet
           case rel => exact ⟨_, (true), (by first | rfl | (simp; done) | (simp [*]; done)), H', ⟨by have := HK1.out; first | omega | exact Nat.le_refl _⟩, ⟨by (with_reducible repeat (first | refine blk_drewN ?_ _ | refine blk_drew ?_ | refine blk_alloc ?_ _)); refine blk_put (cs := #[.int .i64 ((rd_T47 l0 x13_1).f0), .int .i64 ((rd_T47 l0 x13_1).f1), .int .i64 0]) ?_ 2 _ rfl; (with_reducible repeat (first | refine blk_drewN ?_ _ | refine blk_drew ?_ | refine blk_alloc ?_ _)); refine blk_put (cs := #[.int .i64 ((rd_T47 l0 x13_1).f0), .int .i64 0, .int .i64 0]) ?_ 1 _ rfl; (with_reducible repeat (first | refine blk_drewN ?_ _ | refine blk_drew ?_ | refine blk_alloc ?_ _)); refine blk_put (cs := #[.int .i64 0, .int .i64 0, .int .i64 0]) ?_ 0 _ rfl; (with_reducible repeat (first | refine blk_drewN ?_ _ | refine blk_drew ?_ | refine blk_alloc ?_ _)); exact BK116.out⟩, ⟨by repeat (first | (with_reducible first | exact HB.out | apply below_alloc | apply pw_below_drewN | apply below_drew1 | refine below_set ?_ GE116.out) | exact HB.out)⟩⟩
          ·rw [if_neg c14] at H
           have c14b0 : decide (1114111 < ((rd_T47 l0 x13_1).f1)) = false := decide_eq_false c14
           clear c14
           by_cases c16 : ((rd_T47 l0 x13_1).f0) ≤ 57343
           ·rw [if_pos c16] at H
            have c16b0 : decide (((rd_T47 l0 x13_1).f0) ≤ 57343) = true := decide_eq_true c16
            clear c16
            have H' := Aside0.mk H
            clear H
            have hcz17_0 : w8.cell? ⟨gb116, 0, none⟩ = some (.int .i64 0) := (blk_cell BK116.out 0).trans rfl
            have hcz17_1 : w8.cell? ⟨gb116, 1, none⟩ = some (.int .i64 0) := (blk_cell BK116.out 1).trans rfl
            have hcz17_2 : w8.cell? ⟨gb116, 2, none⟩ = some (.int .i64 0) := (blk_cell BK116.out 2).trans rfl
            have hfz17_0 := blk_frozen BK116.out 0
            have hfz17_1 := blk_frozen BK116.out 1
            have hfz17_2 := blk_frozen BK116.out 2
            go_wp2
            go_meet
            case rel => exact ⟨_, (decide (((rd_T47 l0 x13_1).f1) ≥ 55296)), (by first | rfl | (simp; done) | (simp [*]; done)), H', ⟨by have := HK1.out; first | omega | exact Nat.le_refl _⟩, ⟨by (with_reducible repeat (first | refine blk_drewN ?_ _ | refine blk_drew ?_ | refine blk_alloc ?_ _)); refine blk_put (cs := #[.int .i64 ((rd_T47 l0 x13_1).f0), .int .i64 ((rd_T47 l0 x13_1).f1), .int .i64 0]) ?_ 2 _ rfl; (with_reducible repeat (first | refine blk_drewN ?_ _ | refine blk_drew ?_ | refine blk_alloc ?_ _)); refine blk_put (cs := #[.int .i64 ((rd_T47 l0 x13_1).f0), .int .i64 0, .int .i64 0]) ?_ 1 _ rfl; (with_reducible repeat (first | refine blk_drewN ?_ _ | refine blk_drew ?_ | refine blk_alloc ?_ _)); refine blk_put (cs := #[.int .i64 0, .int .i64 0, .int .i64 0]) ?_ 0 _ rfl; (with_reducible repeat (first | refine blk_drewN ?_ _ | refine blk_drew ?_ | refine blk_alloc ?_ _)); exact BK116.out⟩, ⟨by repeat (first | (with_reducible first | exact HB.out | apply below_alloc | apply pw_below_drewN | apply below_drew1 | refine below_set ?_ GE116.out) | exact HB.out)⟩⟩
           ·rw [if_neg c16] at H
            have c16b0 : decide (((rd_T47 l0 x13_1).f0) ≤ 57343) = false := decide_eq_false c16
            clear c16
            have H' := Aside0.mk H
            clear H
            have hcz18_0 : w8.cell? ⟨gb116, 0, none⟩ = some (.int .i64 0) := (blk_cell BK116.out 0).trans rfl
            have hcz18_1 : w8.cell? ⟨gb116, 1, none⟩ = some (.int .i64 0) := (blk_cell BK116.out 1).trans rfl
            have hcz18_2 : w8.cell? ⟨gb116, 2, none⟩ = some (.int .i64 0) := (blk_cell BK116.out 2).trans rfl
            have hfz18_0 := blk_frozen BK116.out 0
            have hfz18_1 := blk_frozen BK116.out 1
            have hfz18_2 := blk_frozen BK116.out 2
            go_wp2
            go_meet
            case rel => exact ⟨_, (false), (by first | rfl | (simp; done) | (simp [*]; done)), H', ⟨by have := HK1.out; first | omega | exact Nat.le_refl _⟩, ⟨by (with_reducible repeat (first | refine blk_drewN ?_ _ | refine blk_drew ?_ | refine blk_alloc ?_ _)); refine blk_put (cs := #[.int .i64 ((rd_T47 l0 x13_1).f0), .int .i64 ((rd_T47 l0 x13_1).f1), .int .i64 0]) ?_ 2 _ rfl; (with_reducible repeat (first | refine blk_drewN ?_ _ | refine blk_drew ?_ | refine blk_alloc ?_ _)); refine blk_put (cs := #[.int .i64 ((rd_T47 l0 x13_1).f0), .int .i64 0, .int .i64 0]) ?_ 1 _ rfl; (with_reducible repeat (first | refine blk_drewN ?_ _ | refine blk_drew ?_ | refine blk_alloc ?_ _)); refine blk_put (cs := #[.int .i64 0, .int .i64 0, .int .i64 0]) ?_ 0 _ rfl; (with_reducible repeat (first | refine blk_drewN ?_ _ | refine blk_drew ?_ | refine blk_alloc ?_ _)); exact BK116.out⟩, ⟨by repeat (first | (with_reducible first | exact HB.out | apply below_alloc | apply pw_below_drewN | apply below_drew1 | refine below_set ?_ GE116.out) | exact HB.out)⟩⟩
       case rest =>
        clear HC7
        try clear c1
        try clear p1
        try clear q1
        try clear hx1
        try clear p2
        try clear c3
        try clear c3b0
        try clear c3b1
        try clear c4
        try clear c4b0
        try clear c5
        try clear c5b0
        try clear c6
        try clear c6b0
        try clear p6
        try clear c10
        try clear c10b0
        try clear p11
        try clear q11
        try clear hx11
        try clear c12
        try clear c12b0
        try clear c14
        try clear c14b0
        try clear c16
        try clear c16b0
        try clear hcz11_0
        try clear hcz11_1
        try clear hcz11_2
        try clear hcz13_0
        try clear hcz13_1
        try clear hcz13_2
        try clear hcz15_0
        try clear hcz15_1
        try clear hcz15_2
        try clear hcz17_0
        try clear hcz17_1
        try clear hcz17_2
        try clear hcz18_0
        try clear hcz18_1
        try clear hcz18_2
        try clear hcz9_0
        try clear hcz9_1
        try clear hcz9_2
        try clear hfz11_0
        try clear hfz11_1
        try clear hfz11_2
        try clear hfz13_0
        try clear hfz13_1
        try clear hfz13_2
        try clear hfz15_0
        try clear hfz15_1
        try clear hfz15_2
        try clear hfz17_0
        try clear hfz17_1
        try clear hfz17_2
        try clear hfz18_0
        try clear hfz18_1
        try clear hfz18_2
        try clear hfz9_0
        try clear hfz9_1
        try clear hfz9_2
        try clear hx115_0
        try clear hx115_1
        try clear hx115_2
        try clear p115
        try clear p2
        try clear q115
        obtain ⟨kq, x42_6, rfl, HA, HJ6, BK116, HB⟩ := hcut
        cases kq with
        | zero => exact absurd HA.out (by simp [cmap_Good.j1])
        | succ kj6 =>
         have H := HA.out
         clear HA
         simp only [cmap_Good.j1] at H
         by_cases c19 : x42_6 = true
         ·subst c19
          have H1 : (some false) = some r := by rw [if_pos rfl] at H; exact H
          clear H
          have H := H1
          clear H1
          obtain rfl := Option.some.inj H
          go_wp2
          go_ret
          exact ⟨by first | rfl | (simp [errW_none, errW_some] <;> rfl) | (simp [*, errW_none, errW_some] <;> rfl) | (((first | rw [pw_wdiv _ _ (by omega) (by omega)] | rw [pw_wdiv' _ _ (by omega) (by omega)] | rw [Go.IntWalk.wrap64_in _ (by omega)]); repeat (first | rw [pw_wdiv _ _ (by omega) (by omega)] | rw [pw_wdiv' _ _ (by omega) (by omega)] | rw [Go.IntWalk.wrap64_in _ (by omega)])); rfl), by repeat (first | (with_reducible first | exact HB.out | apply below_alloc | apply pw_below_drewN | apply below_drew1 | refine below_set ?_ GE116.out) | exact HB.out)⟩
         ·replace c19 := Bool.eq_false_iff.mpr c19
          subst c19
          have H1 : (if ((rd_T47 l0 x13_1).f2) < 1 then (cmap_Good.j2 kj6 l0 a1 x13_1 l0 (l0.length : Int) x13_1 true ((rd_T47 l0 x13_1).f0) ((rd_T47 l0 x13_1).f1) ((rd_T47 l0 x13_1).f2)) else (if ((rd_T47 l0 x13_1).f2) ≥ a1 then (cmap_Good.j2 kj6 l0 a1 x13_1 l0 (l0.length : Int) x13_1 true ((rd_T47 l0 x13_1).f0) ((rd_T47 l0 x13_1).f1) ((rd_T47 l0 x13_1).f2)) else (cmap_Good.j2 kj6 l0 a1 x13_1 l0 (l0.length : Int) x13_1 (decide ((wrap64 (((rd_T47 l0 x13_1).f1) - ((rd_T47 l0 x13_1).f0))) ≥ (wrap64 (a1 - ((rd_T47 l0 x13_1).f2))))) ((rd_T47 l0 x13_1).f0) ((rd_T47 l0 x13_1).f1) ((rd_T47 l0 x13_1).f2)))) = some r := by rw [if_neg (show ¬ (false = true) by decide)] at H; exact H
          clear H
          have H := H1
          clear H1
          have HC20 := Aside0.mk H
          clear H
          go_upto_region 8 with (fail)
          go_cut [63] (fun v63 wc => ∃ (kq : Nat) (x63_19 : Bool), v63 = .bool x63_19 ∧ Aside0 (cmap_Good.j2 kq l0 a1 x13_1 l0 (l0.length : Int) x13_1 x63_19 ((rd_T47 l0 x13_1).f0) ((rd_T47 l0 x13_1).f1) ((rd_T47 l0 x13_1).f2) = some r) ∧ Aside0 (kq ≤ kj6) ∧ Aside0 (wc.heap[gb116]? = some (.cells #[.int .i64 ((rd_T47 l0 x13_1).f0), .int .i64 ((rd_T47 l0 x13_1).f1), .int .i64 ((rd_T47 l0 x13_1).f2)] 47 (0, 0))) ∧ Aside0 (Below w.heap.size w wc))
          case first =>
           have H := HC20.out
           clear HC20
           by_cases c21 : ((rd_T47 l0 x13_1).f2) < 1
           ·rw [if_pos c21] at H
            have c21b0 : decide (((rd_T47 l0 x13_1).f2) < 1) = true := decide_eq_true c21
            clear c21
            (first | rw [c21b0] | (simp only [i64_w, i32_w]; rw [c21b0]) | skip)
            have H' := Aside0.mk H
            clear H
            have hcz22_0 : wc.cell? ⟨gb116, 0, none⟩ = some (.int .i64 ((rd_T47 l0 x13_1).f0)) := (blk_cell BK116.out 0).trans rfl
            have hcz22_1 : wc.cell? ⟨gb116, 1, none⟩ = some (.int .i64 ((rd_T47 l0 x13_1).f1)) := (blk_cell BK116.out 1).trans rfl
            have hcz22_2 : wc.cell? ⟨gb116, 2, none⟩ = some (.int .i64 ((rd_T47 l0 x13_1).f2)) := (blk_cell BK116.out 2).trans rfl
            have hfz22_0 := blk_frozen BK116.out 0
            have hfz22_1 := blk_frozen BK116.out 1
            have hfz22_2 := blk_frozen BK116.out 2
            go_wp2
            go_meet
            case rel => exact ⟨_, (true), (by first | rfl | (simp; done) | (simp [*]; done)), H', ⟨by have := HK1.out; have := HJ6.out; first | omega | exact Nat.le_refl _⟩, ⟨by (with_reducible repeat (first | refine blk_drewN ?_ _ | refine blk_drew ?_ | refine blk_alloc ?_ _)); exact BK116.out⟩, ⟨by repeat (first | (with_reducible first | exact HB.out | apply below_alloc | apply pw_below_drewN | apply below_drew1 | refine below_set ?_ GE116.out) | exact HB.out)⟩⟩
           ·rw [if_neg c21] at H
            have c21b0 : decide (((rd_T47 l0 x13_1).f2) < 1) = false := decide_eq_false c21
            clear c21
            (first | rw [c21b0] | (simp only [i64_w, i32_w]; rw [c21b0]) | skip)
            by_cases c23 : ((rd_T47 l0 x13_1).f2) ≥ a1
            ·rw [if_pos c23] at H
             have c23b0 : decide (a1 ≤ ((rd_T47 l0 x13_1).f2)) = true := decide_eq_true c23
             clear c23
             have H' := Aside0.mk H
             clear H
             have hcz24_0 : wc.cell? ⟨gb116, 0, none⟩ = some (.int .i64 ((rd_T47 l0 x13_1).f0)) := (blk_cell BK116.out 0).trans rfl
             have hcz24_1 : wc.cell? ⟨gb116, 1, none⟩ = some (.int .i64 ((rd_T47 l0 x13_1).f1)) := (blk_cell BK116.out 1).trans rfl
             have hcz24_2 : wc.cell? ⟨gb116, 2, none⟩ = some (.int .i64 ((rd_T47 l0 x13_1).f2)) := (blk_cell BK116.out 2).trans rfl
             have hfz24_0 := blk_frozen BK116.out 0
             have hfz24_1 := blk_frozen BK116.out 1
             have hfz24_2 := blk_frozen BK116.out 2
             go_wp2
             go_meet
             case rel => exact ⟨_, (true), (by first | rfl | (simp; done) | (simp [*]; done)), H', ⟨by have := HK1.out; have := HJ6.out; first | omega | exact Nat.le_refl _⟩, ⟨by (with_reducible repeat (first | refine blk_drewN ?_ _ | refine blk_drew ?_ | refine blk_alloc ?_ _)); exact BK116.out⟩, ⟨by repeat (first | (with_reducible first | exact HB.out | apply below_alloc | apply pw_below_drewN | apply below_drew1 | refine below_set ?_ GE116.out) | exact HB.out)⟩⟩
            ·rw [if_neg c23] at H
             have c23b0 : decide (a1 ≤ ((rd_T47 l0 x13_1).f2)) = false := decide_eq_false c23
             clear c23
             have H' := Aside0.mk H
             clear H
             have hcz25_0 : wc.cell? ⟨gb116, 0, none⟩ = some (.int .i64 ((rd_T47 l0 x13_1).f0)) := (blk_cell BK116.out 0).trans rfl
             have hcz25_1 : wc.cell? ⟨gb116, 1, none⟩ = some (.int .i64 ((rd_T47 l0 x13_1).f1)) := (blk_cell BK116.out 1).trans rfl
             have hcz25_2 : wc.cell? ⟨gb116, 2, none⟩ = some (.int .i64 ((rd_T47 l0 x13_1).f2)) := (blk_cell BK116.out 2).trans rfl
             have hfz25_0 := blk_frozen BK116.out 0
             have hfz25_1 := blk_frozen BK116.out 1
             have hfz25_2 := blk_frozen BK116.out 2
             go_wp2
             go_meet
             case rel => exact ⟨_, (decide ((wrap64 (((rd_T47 l0 x13_1).f1) - ((rd_T47 l0 x13_1).f0))) ≥ (wrap64 (a1 - ((rd_T47 l0 x13_1).f2))))), (by first | rfl | (simp; done) | (simp [*]; done)), H', ⟨by have := HK1.out; have := HJ6.out; first | omega | exact Nat.le_refl _⟩, ⟨by (with_reducible repeat (first | refine blk_drewN ?_ _ | refine blk_drew ?_ | refine blk_alloc ?_ _)); exact BK116.out⟩, ⟨by repeat (first | (with_reducible first | exact HB.out | apply below_alloc | apply pw_below_drewN | apply below_drew1 | refine below_set ?_ GE116.out) | exact HB.out)⟩⟩
          case rest =>
           clear HC20
           try clear c1
           try clear p1
           try clear q1
           try clear hx1
           try clear c2
           try clear p2
           try clear c3
           try clear c3b0
           try clear c3b1
           try clear c4
           try clear c4b0
           try clear c5
           try clear c5b0
           try clear c6
           try clear c6b0
           try clear p6
           try clear c10
           try clear c10b0
           try clear p11
           try clear q11
           try clear hx11
           try clear c12
           try clear c12b0
           try clear c14
           try clear c14b0
           try clear c16
           try clear c16b0
           try clear c19
           try clear c21
           try clear c21b0
           try clear c23
           try clear c23b0
           try clear hcz11_0
           try clear hcz11_1
           try clear hcz11_2
           try clear hcz13_0
           try clear hcz13_1
           try clear hcz13_2
           try clear hcz15_0
           try clear hcz15_1
           try clear hcz15_2
           try clear hcz17_0
           try clear hcz17_1
           try clear hcz17_2
           try clear hcz18_0
           try clear hcz18_1
           try clear hcz18_2
           try clear hcz22_0
           try clear hcz22_1
           try clear hcz22_2
           try clear hcz24_0
           try clear hcz24_1
           try clear hcz24_2
           try clear hcz25_0
           try clear hcz25_1
           try clear hcz25_2
           try clear hcz9_0
           try clear hcz9_1
           try clear hcz9_2
           try clear hfz11_0
           try clear hfz11_1
           try clear hfz11_2
           try clear hfz13_0
           try clear hfz13_1
           try clear hfz13_2
           try clear hfz15_0
           try clear hfz15_1
           try clear hfz15_2
           try clear hfz17_0
           try clear hfz17_1
           try clear hfz17_2
           try clear hfz18_0
           try clear hfz18_1
           try clear hfz18_2
           try clear hfz22_0
           try clear hfz22_1
           try clear hfz22_2
           try clear hfz24_0
           try clear hfz24_1
           try clear hfz24_2
           try clear hfz25_0
           try clear hfz25_1
           try clear hfz25_2
           try clear hfz9_0
           try clear hfz9_1
           try clear hfz9_2
           try clear hx115_0
           try clear hx115_1
           try clear hx115_2
           try clear p1
           try clear p11
           try clear p115
           try clear p2
           try clear p6
           try clear q1
           try clear q11
           try clear q115
           obtain ⟨kq, x63_19, rfl, HA, HJ19, BK116, HB⟩ := hcut
           cases kq with
           | zero => exact absurd HA.out (by simp [cmap_Good.j2])
           | succ kj19 =>
            have H := HA.out
            clear HA
            simp only [cmap_Good.j2] at H
            by_cases c26 : x63_19 = true
            ·subst c26
             have H1 : (some false) = some r := by rw [if_pos rfl] at H; exact H
             clear H
             have H := H1
             clear H1
             obtain rfl := Option.some.inj H
             go_wp2
             go_ret
             exact ⟨by first | rfl | (simp [errW_none, errW_some] <;> rfl) | (simp [*, errW_none, errW_some] <;> rfl) | (((first | rw [pw_wdiv _ _ (by omega) (by omega)] | rw [pw_wdiv' _ _ (by omega) (by omega)] | rw [Go.IntWalk.wrap64_in _ (by omega)]); repeat (first | rw [pw_wdiv _ _ (by omega) (by omega)] | rw [pw_wdiv' _ _ (by omega) (by omega)] | rw [Go.IntWalk.wrap64_in _ (by omega)])); rfl), by repeat (first | (with_reducible first | exact HB.out | apply below_alloc | apply pw_below_drewN | apply below_drew1 | refine below_set ?_ GE116.out) | exact HB.out)⟩
            ·replace c26 := Bool.eq_false_iff.mpr c26
             subst c26
             have H1 : (if x13_1 = 0 then (cmap_Good.l0 kj19 l0 a1 l0 (l0.length : Int) (wrap64 (x13_1 + 1))) else (if 0 ≤ (wrap64 (x13_1 - 1)) then (if (wrap64 (x13_1 - 1)) < (l0.length : Int) then (if ((rd_T47 l0 x13_1).f0) ≤ ((rd_T47 l0 (wrap64 (x13_1 - 1))).f1) then (some false) else (if ((rd_T47 l0 x13_1).f0) = (wrap64 (((rd_T47 l0 (wrap64 (x13_1 - 1))).f1) + 1)) then (if ((rd_T47 l0 x13_1).f2) = (wrap64 ((wrap64 ((wrap64 (((rd_T47 l0 (wrap64 (x13_1 - 1))).f2) + ((rd_T47 l0 (wrap64 (x13_1 - 1))).f1))) - ((rd_T47 l0 (wrap64 (x13_1 - 1))).f0))) + 1)) then (some false) else (cmap_Good.l0 kj19 l0 a1 l0 (l0.length : Int) (wrap64 (x13_1 + 1)))) else (cmap_Good.l0 kj19 l0 a1 l0 (l0.length : Int) (wrap64 (x13_1 + 1))))) else (none)) else (none))) = some r := by rw [if_neg (show ¬ (false = true) by decide)] at H; exact H
             clear H
             have H := H1
             clear H1
             by_cases c27 : x13_1 = 0
             ·rw [if_pos c27] at H
              have c27b0 : (x13_1 == 0) = true := beq_iff_eq.mpr c27
              have c27b1 : (x13_1 != 0) = false := bne_eq_false_iff_eq.mpr c27
              clear c27
              have H' := Aside0.mk H
              clear H
              go_wp2
              go_roundg kj19
              case measure => have := HK1.out; have := HJ6.out; have := HJ19.out; omega
              case rel => exact ⟨(wrap64 (x13_1 + 1)), (by first | rfl | (simp; done) | (simp [*]; done)), H', ⟨by have := HK1.out; have := HJ6.out; have := HJ19.out; omega⟩, ⟨by repeat (first | (with_reducible first | exact HB.out | apply below_alloc | apply pw_below_drewN | apply below_drew1 | refine below_set ?_ GE116.out) | exact HB.out)⟩⟩
             ·rw [if_neg c27] at H
              have c27b0 : (x13_1 == 0) = false := beq_eq_false_iff_ne.mpr c27
              have c27b1 : (x13_1 != 0) = true := bne_iff_ne.mpr c27
              obtain ⟨ji28, hji28⟩ : ∃ j_ : Int, (wrap64 (x13_1 - 1)) = j_ := ⟨_, rfl⟩
              replace H : (if 0 ≤ (ji28) then (if (ji28) < (l0.length : Int) then (if ((rd_T47 l0 x13_1).f0) ≤ ((rd_T47 l0 (ji28)).f1) then (some false) else (if ((rd_T47 l0 x13_1).f0) = (wrap64 (((rd_T47 l0 (ji28)).f1) + 1)) then (if ((rd_T47 l0 x13_1).f2) = (wrap64 ((wrap64 ((wrap64 (((rd_T47 l0 (ji28)).f2) + ((rd_T47 l0 (ji28)).f1))) - ((rd_T47 l0 (ji28)).f0))) + 1)) then (some false) else (cmap_Good.l0 kj19 l0 a1 l0 (l0.length : Int) (wrap64 (x13_1 + 1)))) else (cmap_Good.l0 kj19 l0 a1 l0 (l0.length : Int) (wrap64 (x13_1 + 1))))) else (none)) else (none)) = some r := by first | (rw [hji28] at H; exact H) | (simp only [hji28] at H ⊢; exact H)
              have hji28w : (IntKind.i64.wrap (x13_1 - 1)) = ji28 := (i64_w _).trans hji28
              by_cases c29 : 0 ≤ (ji28)
              ·rw [if_pos c29] at H
               have c29b0 : decide (0 ≤ (ji28)) = true := decide_eq_true c29
               clear c29
               by_cases c30 : (ji28) < (l0.length : Int)
               ·rw [if_pos c30] at H
                have c30b0 : decide ((ji28) < (l0.length : Int)) = true := decide_eq_true c30
                clear c30
                by_cases c31 : ((rd_T47 l0 x13_1).f0) ≤ ((rd_T47 l0 (ji28)).f1)
                ·rw [if_pos c31] at H
                 have c31b0 : decide (((rd_T47 l0 x13_1).f0) ≤ ((rd_T47 l0 (ji28)).f1)) = true := decide_eq_true c31
                 clear c31
                 obtain rfl := Option.some.inj H
                 have p117 : 0 ≤ ((ji28) : Int) := of_decide_eq_true (by first | (with_reducible assumption) | assumption)
                 have q117 : (ji28) < (l0.length : Int) := of_decide_eq_true (by first | (with_reducible assumption) | assumption)
                 obtain ⟨ad117, e117, hx117_0, hx117_1, hx117_2⟩ := at_T47 HR0.out (ji28) p117 q117
                 obtain rfl : ad115 = ad117 := (by injection e117)
                 replace hx117_0 := (HB.out.cell (World.block_lt_of_cell? w _ hx117_0)).trans hx117_0
                 replace hx117_1 := (HB.out.cell (World.block_lt_of_cell? w _ hx117_1)).trans hx117_1
                 replace hx117_2 := (HB.out.cell (World.block_lt_of_cell? w _ hx117_2)).trans hx117_2
                 replace p117 := eq_true p117
                 replace q117 := eq_true q117
                 go_wp2_with (first | ((with_reducible refine gate_dst (N := 7) rfl ?_); refine box_event ?hg (N := 7) ?hd (cs := #[.int .i64 0, .int .i64 0, .int .i64 0]) (t := 47) ?hr ?_; (case hd => rfl); (case hg => rfl); (case hr => first | (go_simp; done) | (go_simp; rfl)); intro gb118 hg w32 hbox hb; have n0_ := Aside0.mk (blk_below (g := gb116) (o := .cells #[.int .i64 ((rd_T47 l0 x13_1).f0), .int .i64 ((rd_T47 l0 x13_1).f1), .int .i64 ((rd_T47 l0 x13_1).f2)] 47 (0, 0)) (by (with_reducible repeat (first | refine blk_drewN ?_ _ | refine blk_drew ?_ | refine blk_alloc ?_ _)); exact BK116.out) hb); have n1_ := Aside0.mk (below_step (by repeat (first | (with_reducible first | exact HB.out | apply below_alloc | apply pw_below_drewN | apply below_drew1 | refine below_set ?_ GE116.out) | exact HB.out)) hb); have n2_ := Aside0.mk (hbox); have n3_ := Aside0.mk ((by rw [hg]; exact (below_size (by repeat (first | (with_reducible first | exact HB.out | apply below_alloc | apply pw_below_drewN | apply below_drew1 | refine below_set ?_ GE116.out) | exact HB.out))) : w.heap.size ≤ gb118)); have n4_ := Aside0.mk ((by rw [hg]; exact (below_size (by repeat (first | (with_reducible first | exact HB.out | apply below_alloc | apply pw_below_drewN | apply below_drew1 | refine below_set ?_ GE116.out) | exact HB.out))) : w.heap.size ≤ gb118)); have n5_ := Aside0.mk ((by rw [hg]; exact Nat.ne_of_lt (blk_lt (g := gb116) (o := .cells #[.int .i64 ((rd_T47 l0 x13_1).f0), .int .i64 ((rd_T47 l0 x13_1).f1), .int .i64 ((rd_T47 l0 x13_1).f2)] 47 (0, 0)) (by (with_reducible repeat (first | refine blk_drewN ?_ _ | refine blk_drew ?_ | refine blk_alloc ?_ _)); exact BK116.out)) : gb116 ≠ gb118)); have n6_ := Aside0.mk ((by rw [hg]; exact Nat.ne_of_gt (blk_lt (g := gb116) (o := .cells #[.int .i64 ((rd_T47 l0 x13_1).f0), .int .i64 ((rd_T47 l0 x13_1).f1), .int .i64 ((rd_T47 l0 x13_1).f2)] 47 (0, 0)) (by (with_reducible repeat (first | refine blk_drewN ?_ _ | refine blk_drew ?_ | refine blk_alloc ?_ _)); exact BK116.out)) : gb118 ≠ gb116)); clear BK116; clear HB; have BK116 := n0_; have HB := n1_; have BK118 := n2_; have GW118 := n3_; have GE118 := n4_; have NB116_118 := n5_; have NB118_116 := n6_; clear n0_ n1_ n2_ n3_ n4_ n5_ n6_; clear hb hbox hg; have hnb33 := NB118_116.out; have hnc33 := NB116_118.out; have hcz34_0 : w32.cell? ⟨gb118, 0, none⟩ = some (.int .i64 0) := (blk_cell BK118.out 0).trans rfl; have hcz34_1 : w32.cell? ⟨gb118, 1, none⟩ = some (.int .i64 0) := (blk_cell BK118.out 1).trans rfl; have hcz34_2 : w32.cell? ⟨gb118, 2, none⟩ = some (.int .i64 0) := (blk_cell BK118.out 2).trans rfl; have hfz34_0 := blk_frozen BK118.out 0; have hfz34_1 := blk_frozen BK118.out 1; have hfz34_2 := blk_frozen BK118.out 2; have hcz35_0 : w32.cell? ⟨gb116, 0, none⟩ = some (.int .i64 ((rd_T47 l0 x13_1).f0)) := (blk_cell BK116.out 0).trans rfl; have hcz35_1 : w32.cell? ⟨gb116, 1, none⟩ = some (.int .i64 ((rd_T47 l0 x13_1).f1)) := (blk_cell BK116.out 1).trans rfl; have hcz35_2 : w32.cell? ⟨gb116, 2, none⟩ = some (.int .i64 ((rd_T47 l0 x13_1).f2)) := (blk_cell BK116.out 2).trans rfl; have hfz35_0 := blk_frozen BK116.out 0; have hfz35_1 := blk_frozen BK116.out 1; have hfz35_2 := blk_frozen BK116.out 2))
                 go_ret
                 exact ⟨by first | rfl | (simp [errW_none, errW_some] <;> rfl) | (simp only [← hji28]; first | rfl | (simp [errW_none, errW_some] <;> rfl)) | (simp [*, errW_none, errW_some] <;> rfl) | (((first | rw [pw_wdiv _ _ (by omega) (by omega)] | rw [pw_wdiv' _ _ (by omega) (by omega)] | rw [Go.IntWalk.wrap64_in _ (by omega)]); repeat (first | rw [pw_wdiv _ _ (by omega) (by omega)] | rw [pw_wdiv' _ _ (by omega) (by omega)] | rw [Go.IntWalk.wrap64_in _ (by omega)])); rfl), by repeat (first | (with_reducible first | exact HB.out | apply below_alloc | apply pw_below_drewN | apply below_drew1 | refine below_set ?_ GE116.out | refine below_set ?_ GE118.out) | exact HB.out)⟩
                ·rw [if_neg c31] at H
                 have c31b0 : decide (((rd_T47 l0 x13_1).f0) ≤ ((rd_T47 l0 (ji28)).f1)) = false := decide_eq_false c31
                 clear c31
                 by_cases c36 : ((rd_T47 l0 x13_1).f0) = (wrap64 (((rd_T47 l0 (ji28)).f1) + 1))
                 ·rw [if_pos c36] at H
                  have c36b0 : (((rd_T47 l0 x13_1).f0) == (wrap64 (((rd_T47 l0 (ji28)).f1) + 1))) = true := beq_iff_eq.mpr c36
                  (try (have c36b0w := c36b0; ((first | rw [pw_wdiv _ _ (by omega) (by omega)] at c36b0w | rw [pw_wdiv' _ _ (by omega) (by omega)] at c36b0w | rw [Go.IntWalk.wrap64_in _ (by omega)] at c36b0w); repeat (first | rw [pw_wdiv _ _ (by omega) (by omega)] at c36b0w | rw [pw_wdiv' _ _ (by omega) (by omega)] at c36b0w | rw [Go.IntWalk.wrap64_in _ (by omega)] at c36b0w))))
                  have c36b1 : (((rd_T47 l0 x13_1).f0) != (wrap64 (((rd_T47 l0 (ji28)).f1) + 1))) = false := bne_eq_false_iff_eq.mpr c36
                  (try (have c36b1w := c36b1; ((first | rw [pw_wdiv _ _ (by omega) (by omega)] at c36b1w | rw [pw_wdiv' _ _ (by omega) (by omega)] at c36b1w | rw [Go.IntWalk.wrap64_in _ (by omega)] at c36b1w); repeat (first | rw [pw_wdiv _ _ (by omega) (by omega)] at c36b1w | rw [pw_wdiv' _ _ (by omega) (by omega)] at c36b1w | rw [Go.IntWalk.wrap64_in _ (by omega)] at c36b1w))))
                  clear c36
                  by_cases c37 : ((rd_T47 l0 x13_1).f2) = (wrap64 ((wrap64 ((wrap64 (((rd_T47 l0 (ji28)).f2) + ((rd_T47 l0 (ji28)).f1))) - ((rd_T47 l0 (ji28)).f0))) + 1))
                  ·rw [if_pos c37] at H
                   have c37b0 : (((rd_T47 l0 x13_1).f2) == (wrap64 ((wrap64 ((wrap64 (((rd_T47 l0 (ji28)).f2) + ((rd_T47 l0 (ji28)).f1))) - ((rd_T47 l0 (ji28)).f0))) + 1))) = true := beq_iff_eq.mpr c37
                   (try (have c37b0w := c37b0; ((first | rw [pw_wdiv _ _ (by omega) (by omega)] at c37b0w | rw [pw_wdiv' _ _ (by omega) (by omega)] at c37b0w | rw [Go.IntWalk.wrap64_in _ (by omega)] at c37b0w); repeat (first | rw [pw_wdiv _ _ (by omega) (by omega)] at c37b0w | rw [pw_wdiv' _ _ (by omega) (by omega)] at c37b0w | rw [Go.IntWalk.wrap64_in _ (by omega)] at c37b0w))))
                   have c37b1 : (((rd_T47 l0 x13_1).f2) != (wrap64 ((wrap64 ((wrap64 (((rd_T47 l0 (ji28)).f2) + ((rd_T47 l0 (ji28)).f1))) - ((rd_T47 l0 (ji28)).f0))) + 1))) = false := bne_eq_false_iff_eq.mpr c37
                   (try (have c37b1w := c37b1; ((first | rw [pw_wdiv _ _ (by omega) (by omega)] at c37b1w | rw [pw_wdiv' _ _ (by omega) (by omega)] at c37b1w | rw [Go.IntWalk.wrap64_in _ (by omega)] at c37b1w); repeat (first | rw [pw_wdiv _ _ (by omega) (by omega)] at c37b1w | rw [pw_wdiv' _ _ (by omega) (by omega)] at c37b1w | rw [Go.IntWalk.wrap64_in _ (by omega)] at c37b1w))))
                   clear c37
                   obtain rfl := Option.some.inj H
                   have p117 : 0 ≤ ((ji28) : Int) := of_decide_eq_true (by first | (with_reducible assumption) | assumption)
                   have q117 : (ji28) < (l0.length : Int) := of_decide_eq_true (by first | (with_reducible assumption) | assumption)
                   obtain ⟨ad117, e117, hx117_0, hx117_1, hx117_2⟩ := at_T47 HR0.out (ji28) p117 q117
                   obtain rfl : ad115 = ad117 := (by injection e117)
                   replace hx117_0 := (HB.out.cell (World.block_lt_of_cell? w _ hx117_0)).trans hx117_0
                   replace hx117_1 := (HB.out.cell (World.block_lt_of_cell? w _ hx117_1)).trans hx117_1
                   replace hx117_2 := (HB.out.cell (World.block_lt_of_cell? w _ hx117_2)).trans hx117_2
                   replace p117 := eq_true p117
                   replace q117 := eq_true q117
                   go_wp2_with (first | ((with_reducible refine gate_dst (N := 7) rfl ?_); refine box_event ?hg (N := 7) ?hd (cs := #[.int .i64 0, .int .i64 0, .int .i64 0]) (t := 47) ?hr ?_; (case hd => rfl); (case hg => rfl); (case hr => first | (go_simp; done) | (go_simp; rfl)); intro gb118 hg w38 hbox hb; have n0_ := Aside0.mk (blk_below (g := gb116) (o := .cells #[.int .i64 ((rd_T47 l0 x13_1).f0), .int .i64 ((rd_T47 l0 x13_1).f1), .int .i64 ((rd_T47 l0 x13_1).f2)] 47 (0, 0)) (by (with_reducible repeat (first | refine blk_drewN ?_ _ | refine blk_drew ?_ | refine blk_alloc ?_ _)); exact BK116.out) hb); have n1_ := Aside0.mk (below_step (by repeat (first | (with_reducible first | exact HB.out | apply below_alloc | apply pw_below_drewN | apply below_drew1 | refine below_set ?_ GE116.out) | exact HB.out)) hb); have n2_ := Aside0.mk (hbox); have n3_ := Aside0.mk ((by rw [hg]; exact (below_size (by repeat (first | (with_reducible first | exact HB.out | apply below_alloc | apply pw_below_drewN | apply below_drew1 | refine below_set ?_ GE116.out) | exact HB.out))) : w.heap.size ≤ gb118)); have n4_ := Aside0.mk ((by rw [hg]; exact (below_size (by repeat (first | (with_reducible first | exact HB.out | apply below_alloc | apply pw_below_drewN | apply below_drew1 | refine below_set ?_ GE116.out) | exact HB.out))) : w.heap.size ≤ gb118)); have n5_ := Aside0.mk ((by rw [hg]; exact Nat.ne_of_lt (blk_lt (g := gb116) (o := .cells #[.int .i64 ((rd_T47 l0 x13_1).f0), .int .i64 ((rd_T47 l0 x13_1).f1), .int .i64 ((rd_T47 l0 x13_1).f2)] 47 (0, 0)) (by (with_reducible repeat (first | refine blk_drewN ?_ _ | refine blk_drew ?_ | refine blk_alloc ?_ _)); exact BK116.out)) : gb116 ≠ gb118)); have n6_ := Aside0.mk ((by rw [hg]; exact Nat.ne_of_gt (blk_lt (g := gb116) (o := .cells #[.int .i64 ((rd_T47 l0 x13_1).f0), .int .i64 ((rd_T47 l0 x13_1).f1), .int .i64 ((rd_T47 l0 x13_1).f2)] 47 (0, 0)) (by (with_reducible repeat (first | refine blk_drewN ?_ _ | refine blk_drew ?_ | refine blk_alloc ?_ _)); exact BK116.out)) : gb118 ≠ gb116)); clear BK116; clear HB; have BK116 := n0_; have HB := n1_; have BK118 := n2_; have GW118 := n3_; have GE118 := n4_; have NB116_118 := n5_; have NB118_116 := n6_; clear n0_ n1_ n2_ n3_ n4_ n5_ n6_; clear hb hbox hg; have hnb39 := NB118_116.out; have hnc39 := NB116_118.out; have hcz40_0 : w38.cell? ⟨gb118, 0, none⟩ = some (.int .i64 0) := (blk_cell BK118.out 0).trans rfl; have hcz40_1 : w38.cell? ⟨gb118, 1, none⟩ = some (.int .i64 0) := (blk_cell BK118.out 1).trans rfl; have hcz40_2 : w38.cell? ⟨gb118, 2, none⟩ = some (.int .i64 0) := (blk_cell BK118.out 2).trans rfl; have hfz40_0 := blk_frozen BK118.out 0; have hfz40_1 := blk_frozen BK118.out 1; have hfz40_2 := blk_frozen BK118.out 2; have hcz41_0 : w38.cell? ⟨gb116, 0, none⟩ = some (.int .i64 ((rd_T47 l0 x13_1).f0)) := (blk_cell BK116.out 0).trans rfl; have hcz41_1 : w38.cell? ⟨gb116, 1, none⟩ = some (.int .i64 ((rd_T47 l0 x13_1).f1)) := (blk_cell BK116.out 1).trans rfl; have hcz41_2 : w38.cell? ⟨gb116, 2, none⟩ = some (.int .i64 ((rd_T47 l0 x13_1).f2)) := (blk_cell BK116.out 2).trans rfl; have hfz41_0 := blk_frozen BK116.out 0; have hfz41_1 := blk_frozen BK116.out 1; have hfz41_2 := blk_frozen BK116.out 2))
                   go_ret
                   exact ⟨by first | rfl | (simp [errW_none, errW_some] <;> rfl) | (simp only [← hji28]; first | rfl | (simp [errW_none, errW_some] <;> rfl)) | (simp [*, errW_none, errW_some] <;> rfl) | (((first | rw [pw_wdiv _ _ (by omega) (by omega)] | rw [pw_wdiv' _ _ (by omega) (by omega)] | rw [Go.IntWalk.wrap64_in _ (by omega)]); repeat (first | rw [pw_wdiv _ _ (by omega) (by omega)] | rw [pw_wdiv' _ _ (by omega) (by omega)] | rw [Go.IntWalk.wrap64_in _ (by omega)])); rfl), by repeat (first | (with_reducible first | exact HB.out | apply below_alloc | apply pw_below_drewN | apply below_drew1 | refine below_set ?_ GE116.out | refine below_set ?_ GE118.out) | exact HB.out)⟩
                  ·rw [if_neg c37] at H
                   have c37b0 : (((rd_T47 l0 x13_1).f2) == (wrap64 ((wrap64 ((wrap64 (((rd_T47 l0 (ji28)).f2) + ((rd_T47 l0 (ji28)).f1))) - ((rd_T47 l0 (ji28)).f0))) + 1))) = false := beq_eq_false_iff_ne.mpr c37
                   (try (have c37b0w := c37b0; ((first | rw [pw_wdiv _ _ (by omega) (by omega)] at c37b0w | rw [pw_wdiv' _ _ (by omega) (by omega)] at c37b0w | rw [Go.IntWalk.wrap64_in _ (by omega)] at c37b0w); repeat (first | rw [pw_wdiv _ _ (by omega) (by omega)] at c37b0w | rw [pw_wdiv' _ _ (by omega) (by omega)] at c37b0w | rw [Go.IntWalk.wrap64_in _ (by omega)] at c37b0w))))
                   have c37b1 : (((rd_T47 l0 x13_1).f2) != (wrap64 ((wrap64 ((wrap64 (((rd_T47 l0 (ji28)).f2) + ((rd_T47 l0 (ji28)).f1))) - ((rd_T47 l0 (ji28)).f0))) + 1))) = true := bne_iff_ne.mpr c37
                   (try (have c37b1w := c37b1; ((first | rw [pw_wdiv _ _ (by omega) (by omega)] at c37b1w | rw [pw_wdiv' _ _ (by omega) (by omega)] at c37b1w | rw [Go.IntWalk.wrap64_in _ (by omega)] at c37b1w); repeat (first | rw [pw_wdiv _ _ (by omega) (by omega)] at c37b1w | rw [pw_wdiv' _ _ (by omega) (by omega)] at c37b1w | rw [Go.IntWalk.wrap64_in _ (by omega)] at c37b1w))))
                   have H' := Aside0.mk H
                   clear H
                   have p117 : 0 ≤ ((ji28) : Int) := of_decide_eq_true (by first | (with_reducible assumption) | assumption)
                   have q117 : (ji28) < (l0.length : Int) := of_decide_eq_true (by first | (with_reducible assumption) | assumption)
                   obtain ⟨ad117, e117, hx117_0, hx117_1, hx117_2⟩ := at_T47 HR0.out (ji28) p117 q117
                   obtain rfl : ad115 = ad117 := (by injection e117)
                   replace hx117_0 := (HB.out.cell (World.block_lt_of_cell? w _ hx117_0)).trans hx117_0
                   replace hx117_1 := (HB.out.cell (World.block_lt_of_cell? w _ hx117_1)).trans hx117_1
                   replace hx117_2 := (HB.out.cell (World.block_lt_of_cell? w _ hx117_2)).trans hx117_2
                   replace p117 := eq_true p117
                   replace q117 := eq_true q117
                   go_wp2_with (first | ((with_reducible refine gate_dst (N := 7) rfl ?_); refine box_event ?hg (N := 7) ?hd (cs := #[.int .i64 0, .int .i64 0, .int .i64 0]) (t := 47) ?hr ?_; (case hd => rfl); (case hg => rfl); (case hr => first | (go_simp; done) | (go_simp; rfl)); intro gb118 hg w42 hbox hb; have n0_ := Aside0.mk (blk_below (g := gb116) (o := .cells #[.int .i64 ((rd_T47 l0 x13_1).f0), .int .i64 ((rd_T47 l0 x13_1).f1), .int .i64 ((rd_T47 l0 x13_1).f2)] 47 (0, 0)) (by (with_reducible repeat (first | refine blk_drewN ?_ _ | refine blk_drew ?_ | refine blk_alloc ?_ _)); exact BK116.out) hb); have n1_ := Aside0.mk (below_step (by repeat (first | (with_reducible first | exact HB.out | apply below_alloc | apply pw_below_drewN | apply below_drew1 | refine below_set ?_ GE116.out) | exact HB.out)) hb); have n2_ := Aside0.mk (hbox); have n3_ := Aside0.mk ((by rw [hg]; exact (below_size (by repeat (first | (with_reducible first | exact HB.out | apply below_alloc | apply pw_below_drewN | apply below_drew1 | refine below_set ?_ GE116.out) | exact HB.out))) : w.heap.size ≤ gb118)); have n4_ := Aside0.mk ((by rw [hg]; exact (below_size (by repeat (first | (with_reducible first | exact HB.out | apply below_alloc | apply pw_below_drewN | apply below_drew1 | refine below_set ?_ GE116.out) | exact HB.out))) : w.heap.size ≤ gb118)); have n5_ := Aside0.mk ((by rw [hg]; exact Nat.ne_of_lt (blk_lt (g := gb116) (o := .cells #[.int .i64 ((rd_T47 l0 x13_1).f0), .int .i64 ((rd_T47 l0 x13_1).f1), .int .i64 ((rd_T47 l0 x13_1).f2)] 47 (0, 0)) (by (with_reducible repeat (first | refine blk_drewN ?_ _ | refine blk_drew ?_ | refine blk_alloc ?_ _)); exact BK116.out)) : gb116 ≠ gb118)); have n6_ := Aside0.mk ((by rw [hg]; exact Nat.ne_of_gt (blk_lt (g := gb116) (o := .cells #[.int .i64 ((rd_T47 l0 x13_1).f0), .int .i64 ((rd_T47 l0 x13_1).f1), .int .i64 ((rd_T47 l0 x13_1).f2)] 47 (0, 0)) (by (with_reducible repeat (first | refine blk_drewN ?_ _ | refine blk_drew ?_ | refine blk_alloc ?_ _)); exact BK116.out)) : gb118 ≠ gb116)); clear BK116; clear HB; have BK116 := n0_; have HB := n1_; have BK118 := n2_; have GW118 := n3_; have GE118 := n4_; have NB116_118 := n5_; have NB118_116 := n6_; clear n0_ n1_ n2_ n3_ n4_ n5_ n6_; clear hb hbox hg; have hnb43 := NB118_116.out; have hnc43 := NB116_118.out; have hcz44_0 : w42.cell? ⟨gb118, 0, none⟩ = some (.int .i64 0) := (blk_cell BK118.out 0).trans rfl; have hcz44_1 : w42.cell? ⟨gb118, 1, none⟩ = some (.int .i64 0) := (blk_cell BK118.out 1).trans rfl; have hcz44_2 : w42.cell? ⟨gb118, 2, none⟩ = some (.int .i64 0) := (blk_cell BK118.out 2).trans rfl; have hfz44_0 := blk_frozen BK118.out 0; have hfz44_1 := blk_frozen BK118.out 1; have hfz44_2 := blk_frozen BK118.out 2; have hcz45_0 : w42.cell? ⟨gb116, 0, none⟩ = some (.int .i64 ((rd_T47 l0 x13_1).f0)) := (blk_cell BK116.out 0).trans rfl; have hcz45_1 : w42.cell? ⟨gb116, 1, none⟩ = some (.int .i64 ((rd_T47 l0 x13_1).f1)) := (blk_cell BK116.out 1).trans rfl; have hcz45_2 : w42.cell? ⟨gb116, 2, none⟩ = some (.int .i64 ((rd_T47 l0 x13_1).f2)) := (blk_cell BK116.out 2).trans rfl; have hfz45_0 := blk_frozen BK116.out 0; have hfz45_1 := blk_frozen BK116.out 1; have hfz45_2 := blk_frozen BK116.out 2))
                   go_roundg kj19
                   case measure => have := HK1.out; have := HJ6.out; have := HJ19.out; omega
                   case rel => exact ⟨(wrap64 (x13_1 + 1)), (by first | rfl | (simp; done) | (simp [*]; done)), H', ⟨by have := HK1.out; have := HJ6.out; have := HJ19.out; omega⟩, ⟨by repeat (first | (with_reducible first | exact HB.out | apply below_alloc | apply pw_below_drewN | apply below_drew1 | refine below_set ?_ GE116.out | refine below_set ?_ GE118.out) | exact HB.out)⟩⟩
                 ·rw [if_neg c36] at H
                  have c36b0 : (((rd_T47 l0 x13_1).f0) == (wrap64 (((rd_T47 l0 (ji28)).f1) + 1))) = false := beq_eq_false_iff_ne.mpr c36
                  (try (have c36b0w := c36b0; ((first | rw [pw_wdiv _ _ (by omega) (by omega)] at c36b0w | rw [pw_wdiv' _ _ (by omega) (by omega)] at c36b0w | rw [Go.IntWalk.wrap64_in _ (by omega)] at c36b0w); repeat (first | rw [pw_wdiv _ _ (by omega) (by omega)] at c36b0w | rw [pw_wdiv' _ _ (by omega) (by omega)] at c36b0w | rw [Go.IntWalk.wrap64_in _ (by omega)] at c36b0w))))
                  have c36b1 : (((rd_T47 l0 x13_1).f0) != (wrap64 (((rd_T47 l0 (ji28)).f1) + 1))) = true := bne_iff_ne.mpr c36
                  (try (have c36b1w := c36b1; ((first | rw [pw_wdiv _ _ (by omega) (by omega)] at c36b1w | rw [pw_wdiv' _ _ (by omega) (by omega)] at c36b1w | rw [Go.IntWalk.wrap64_in _ (by omega)] at c36b1w); repeat (first | rw [pw_wdiv _ _ (by omega) (by omega)] at c36b1w | rw [pw_wdiv' _ _ (by omega) (by omega)] at c36b1w | rw [Go.IntWalk.wrap64_in _ (by omega)] at c36b1w))))
                  have H' := Aside0.mk H
                  clear H
                  have p117 : 0 ≤ ((ji28) : Int) := of_decide_eq_true (by first | (with_reducible assumption) | assumption)
                  have q117 : (ji28) < (l0.length : Int) := of_decide_eq_true (by first | (with_reducible assumption) | assumption)
                  obtain ⟨ad117, e117, hx117_0, hx117_1, hx117_2⟩ := at_T47 HR0.out (ji28) p117 q117
                  obtain rfl : ad115 = ad117 := (by injection e117)
                  replace hx117_0 := (HB.out.cell (World.block_lt_of_cell? w _ hx117_0)).trans hx117_0
                  replace hx117_1 := (HB.out.cell (World.block_lt_of_cell? w _ hx117_1)).trans hx117_1
                  replace hx117_2 := (HB.out.cell (World.block_lt_of_cell? w _ hx117_2)).trans hx117_2
                  replace p117 := eq_true p117
                  replace q117 := eq_true q117
                  go_wp2_with (first | ((with_reducible refine gate_dst (N := 7) rfl ?_); refine box_event ?hg (N := 7) ?hd (cs := #[.int .i64 0, .int .i64 0, .int .i64 0]) (t := 47) ?hr ?_; (case hd => rfl); (case hg => rfl); (case hr => first | (go_simp; done) | (go_simp; rfl)); intro gb118 hg w46 hbox hb; have n0_ := Aside0.mk (blk_below (g := gb116) (o := .cells #[.int .i64 ((rd_T47 l0 x13_1).f0), .int .i64 ((rd_T47 l0 x13_1).f1), .int .i64 ((rd_T47 l0 x13_1).f2)] 47 (0, 0)) (by (with_reducible repeat (first | refine blk_drewN ?_ _ | refine blk_drew ?_ | refine blk_alloc ?_ _)); exact BK116.out) hb); have n1_ := Aside0.mk (below_step (by repeat (first | (with_reducible first | exact HB.out | apply below_alloc | apply pw_below_drewN | apply below_drew1 | refine below_set ?_ GE116.out) | exact HB.out)) hb); have n2_ := Aside0.mk (hbox); have n3_ := Aside0.mk ((by rw [hg]; exact (below_size (by repeat (first | (with_reducible first | exact HB.out | apply below_alloc | apply pw_below_drewN | apply below_drew1 | refine below_set ?_ GE116.out) | exact HB.out))) : w.heap.size ≤ gb118)); have n4_ := Aside0.mk ((by rw [hg]; exact (below_size (by repeat (first | (with_reducible first | exact HB.out | apply below_alloc | apply pw_below_drewN | apply below_drew1 | refine below_set ?_ GE116.out) | exact HB.out))) : w.heap.size ≤ gb118)); have n5_ := Aside0.mk ((by rw [hg]; exact Nat.ne_of_lt (blk_lt (g := gb116) (o := .cells #[.int .i64 ((rd_T47 l0 x13_1).f0), .int .i64 ((rd_T47 l0 x13_1).f1), .int .i64 ((rd_T47 l0 x13_1).f2)] 47 (0, 0)) (by (with_reducible repeat (first | refine blk_drewN ?_ _ | refine blk_drew ?_ | refine blk_alloc ?_ _)); exact BK116.out)) : gb116 ≠ gb118)); have n6_ := Aside0.mk ((by rw [hg]; exact Nat.ne_of_gt (blk_lt (g := gb116) (o := .cells #[.int .i64 ((rd_T47 l0 x13_1).f0), .int .i64 ((rd_T47 l0 x13_1).f1), .int .i64 ((rd_T47 l0 x13_1).f2)] 47 (0, 0)) (by (with_reducible repeat (first | refine blk_drewN ?_ _ | refine blk_drew ?_ | refine blk_alloc ?_ _)); exact BK116.out)) : gb118 ≠ gb116)); clear BK116; clear HB; have BK116 := n0_; have HB := n1_; have BK118 := n2_; have GW118 := n3_; have GE118 := n4_; have NB116_118 := n5_; have NB118_116 := n6_; clear n0_ n1_ n2_ n3_ n4_ n5_ n6_; clear hb hbox hg; have hnb47 := NB118_116.out; have hnc47 := NB116_118.out; have hcz48_0 : w46.cell? ⟨gb118, 0, none⟩ = some (.int .i64 0) := (blk_cell BK118.out 0).trans rfl; have hcz48_1 : w46.cell? ⟨gb118, 1, none⟩ = some (.int .i64 0) := (blk_cell BK118.out 1).trans rfl; have hcz48_2 : w46.cell? ⟨gb118, 2, none⟩ = some (.int .i64 0) := (blk_cell BK118.out 2).trans rfl; have hfz48_0 := blk_frozen BK118.out 0; have hfz48_1 := blk_frozen BK118.out 1; have hfz48_2 := blk_frozen BK118.out 2; have hcz49_0 : w46.cell? ⟨gb116, 0, none⟩ = some (.int .i64 ((rd_T47 l0 x13_1).f0)) := (blk_cell BK116.out 0).trans rfl; have hcz49_1 : w46.cell? ⟨gb116, 1, none⟩ = some (.int .i64 ((rd_T47 l0 x13_1).f1)) := (blk_cell BK116.out 1).trans rfl; have hcz49_2 : w46.cell? ⟨gb116, 2, none⟩ = some (.int .i64 ((rd_T47 l0 x13_1).f2)) := (blk_cell BK116.out 2).trans rfl; have hfz49_0 := blk_frozen BK116.out 0; have hfz49_1 := blk_frozen BK116.out 1; have hfz49_2 := blk_frozen BK116.out 2))
                  go_roundg kj19
                  case measure => have := HK1.out; have := HJ6.out; have := HJ19.out; omega
                  case rel => exact ⟨(wrap64 (x13_1 + 1)), (by first | rfl | (simp; done) | (simp [*]; done)), H', ⟨by have := HK1.out; have := HJ6.out; have := HJ19.out; omega⟩, ⟨by repeat (first | (with_reducible first | exact HB.out | apply below_alloc | apply pw_below_drewN | apply below_drew1 | refine below_set ?_ GE116.out | refine below_set ?_ GE118.out) | exact HB.out)⟩⟩
               ·rw [if_neg c30] at H
                exact absurd H (by simp)
              ·rw [if_neg c29] at H
               exact absurd H (by simp)
      ·rw [if_neg c6] at H
       exact absurd H (by simp)
     ·rw [if_neg c5] at H
      exact absurd H (by simp)
    ·rw [if_neg c4] at H
     have c4b0 : decide (x13_1 < (l0.length : Int)) = false := decide_eq_false c4
     clear c4
     obtain rfl := Option.some.inj H
     go_wp2
     go_ret
     exact ⟨by first | rfl | (simp [errW_none, errW_some] <;> rfl) | (simp [*, errW_none, errW_some] <;> rfl) | (((first | rw [pw_wdiv _ _ (by omega) (by omega)] | rw [pw_wdiv' _ _ (by omega) (by omega)] | rw [Go.IntWalk.wrap64_in _ (by omega)]); repeat (first | rw [pw_wdiv _ _ (by omega) (by omega)] | rw [pw_wdiv' _ _ (by omega) (by omega)] | rw [Go.IntWalk.wrap64_in _ (by omega)])); rfl), by repeat (first | (with_reducible first | exact HB.out | apply below_alloc | apply pw_below_drewN | apply below_drew1) | exact HB.out)⟩

/-! ### cmap_put: function 29 -/
def cmap_put.l0 : Nat → List Int → List Int → Int → Int → Option (List Int)
 | 0, _, _, _, _ => none
 | k + 1, x0, x7, x8, x9 => if x9 < x8 then (if 0 ≤ x9 then (if x9 < (x7.length : Int) then ((some (([((rd x7 x9) / 256) % 256, (rd x7 x9) % 256] : List Int) : List Int)).bind fun y120 => (if x0.length + y120.length < 140737488355328 then (cmap_put.l0 k (x0 ++ y120) x7 x8 (wrap64 (x9 + 1))) else (none))) else (none)) else (none)) else (some x0)
def cmap_put.f (k : Nat) (l0 : List Int) (l1 : List Int) : Option (List Int) := cmap_put.l0 k l0 l1 (l1.length : Int) 0
theorem cmap_put.mono_l : ∀ k, (∀ y0 y1 y2 y3, LeO (cmap_put.l0 k y0 y1 y2 y3) (cmap_put.l0 (k + 1) y0 y1 y2 y3))
 | 0 => fun _ _ _ _ r h => by simp [cmap_put.l0] at h
 | k + 1 => by
  have ih0 := cmap_put.mono_l k
  ·intro y0 y1 y2 y3
   unfold cmap_put.l0
   repeat' first
   | (with_reducible exact ih0 _ _ _ _)
   | (with_reducible exact LeO.refl _)
   | (with_reducible exact LeO.none _)
   | (with_reducible refine LeO.ite ?_ ?_)
   | (with_reducible refine LeO.bind ?_ (fun _ => ?_))
   | exact ih0 _ _ _ _
   | exact LeO.none _
   | refine LeO.ite ?_ ?_
   | refine LeO.bind ?_ (fun _ => ?_)
theorem cmap_put.mono : ∀ a0 a1 k, LeO (cmap_put.f k a0 a1) (cmap_put.f (k + 1) a0 a1) := by
 intro a0 a1 k
 have ih0 := cmap_put.mono_l k
 unfold cmap_put.f
 repeat' first
   | (with_reducible exact ih0 _ _ _ _)
   | (with_reducible exact LeO.refl _)
   | (with_reducible exact LeO.none _)
   | (with_reducible refine LeO.ite ?_ ?_)
   | (with_reducible refine LeO.bind ?_ (fun _ => ?_))
   | exact ih0 _ _ _ _
   | exact LeO.none _
   | refine LeO.ite ?_ ?_
   | refine LeO.bind ?_ (fun _ => ?_)
set_option maxHeartbeats 8000000 in
set_option maxRecDepth 100000 in
theorem cmap_put.calls (k : Nat) (P0_ : Nat → Prop) (u9000_ : Value) (l0 : List Int) (A1 : Option Addr) (c1 : Nat) (l1 : List Int) (r : List Int) (w0 w : World) (hB : Below w0.heap.size w0 w) (ho0 : Kd.R (Kd.int .u8) 5 w w0.heap.size P0_ u9000_ l0) (hr1 : ∀ W_, Kept w W_ (fun k_ => P0_ k_) → Kd.C (Kd.int .i64) W_ A1 l1.length l1) (hc1 : l1.length ≤ c1) (h : cmap_put.f k l0 l1 = some r) :
  Calls Try.prog 29 #[u9000_, .slice A1 l1.length c1] w fun e w' => ∃ v0_ : Value, e = .returned (v0_) ∧ Kd.R (Kd.int .u8) 5 w' w0.heap.size (fun k_ => (P0_ k_ ∨ w.heap.size ≤ k_)) v0_ r ∧ Below w0.heap.size w0 w' ∧ Kept w w' (fun k_ => P0_ k_) := by
 have HO0 := Aside0.mk (show Kd.R (Kd.int .u8) 5 w w0.heap.size (fun k_ => (P0_ k_ ∨ w.heap.size ≤ k_)) u9000_ l0 from Kd.R_mono ho0 (fun k_ hk => (.inl hk)))
 have HR1 := Aside0.mk hr1
 have HC1 := Aside0.mk hc1
 clear hr1 hc1
 have HK := Aside0.mk (Kept.refl w (fun k_ => P0_ k_))
 have HW0 := Aside0.mk hB.size
 have HB := Aside0.mk hB
 clear hB
 have H : (cmap_put.l0 k l0 l1 (l1.length : Int) 0) = some r := h
 clear h
 have H' := Aside0.mk H
 clear H
 go_enter Try.func29, Try.ntmps29
 go_wp2
 go_loopg [0, 9] k (fun kq v0 v9 w' => ∃ (x0_1 : List Int) (x9_1 : Int), v9 = .int .i64 x9_1 ∧ Aside0 (cmap_put.l0 kq x0_1 l1 (l1.length : Int) x9_1 = some r) ∧ Aside0 (kq ≤ k) ∧ Aside0 (Kd.R (Kd.int .u8) 5 w' w0.heap.size (fun k_ => (P0_ k_ ∨ w.heap.size ≤ k_)) v0 x0_1) ∧ Aside0 (Kept w w' (fun k_ => P0_ k_)) ∧ Aside0 (Below w0.heap.size w0 w'))
 case atStart => exact ⟨(l0), (0), (by first | rfl | (simp; done) | (simp [*]; done)), H', ⟨Nat.le_refl _⟩, ⟨by (with_reducible repeat (first | apply Kd.R_alloc | apply Kd.R_drewN | apply Kd.R_drew)); exact HO0.out⟩, ⟨by repeat (first | (with_reducible first | exact HK.out | apply Kept.alloc | apply Kept.drewN | apply Kept.drew) | exact HK.out)⟩, ⟨by repeat (first | (with_reducible first | exact HB.out | apply below_alloc | apply pw_below_drewN | apply below_drew1) | exact HB.out)⟩⟩
 case round =>
  clear H'
  try clear c1
  try clear c2
  try clear p2
  obtain ⟨x0_1, x9_1, rfl, HA, HK1, HO_0, HK, HB⟩ := hrel
  cases gk with
  | zero => exact absurd HA.out (by simp [cmap_put.l0])
  | succ k1 =>
   have H := HA.out
   clear HA
   simp only [cmap_put.l0] at H
   by_cases c3 : x9_1 < (l1.length : Int)
   ·rw [if_pos c3] at H
    have c3b0 : decide (x9_1 < (l1.length : Int)) = true := decide_eq_true c3
    clear c3
    by_cases c4 : 0 ≤ x9_1
    ·rw [if_pos c4] at H
     have c4b0 : decide (0 ≤ x9_1) = true := decide_eq_true c4
     clear c4
     by_cases c5 : x9_1 < (l1.length : Int)
     ·rw [if_pos c5] at H
      have c5b0 : decide (x9_1 < (l1.length : Int)) = true := decide_eq_true c5
      clear c5
      obtain ⟨y120, hy120⟩ : ∃ y_ : List Int, y_ = (([((rd l1 x9_1) / 256) % 256, (rd l1 x9_1) % 256] : List Int)) := ⟨_, rfl⟩
      replace H : (if x0_1.length + y120.length < 140737488355328 then (cmap_put.l0 k1 (x0_1 ++ y120) l1 (l1.length : Int) (wrap64 (x9_1 + 1))) else (none)) = some r := by first | (rw [hy120]; with_reducible exact H) | (have H2_ := (Option.bind_some _ _).symm.trans H; rw [hy120]; with_reducible exact H2_) | (have H2_ := (Option.bind_some _ _).symm.trans H; with_reducible exact H2_) | with_reducible exact H | (rw [hy120]; exact H) | exact H
      have Ny120 := Aside0.mk hy120
      clear hy120
      by_cases c6 : x0_1.length + y120.length < 140737488355328
      ·rw [if_pos c6] at H
       have LMc6 := Aside0.mk c6
       clear c6
       obtain ⟨y123, hy123⟩ : ∃ y_ : List Int, y_ = (x0_1 ++ y120) := ⟨_, rfl⟩
       replace H : (cmap_put.l0 k1 y123 l1 (l1.length : Int) (wrap64 (x9_1 + 1))) = some r := by first | (rw [hy123]; with_reducible exact H) | (have H2_ := (Option.bind_some _ _).symm.trans H; rw [hy123]; with_reducible exact H2_) | (have H2_ := (Option.bind_some _ _).symm.trans H; with_reducible exact H2_) | with_reducible exact H | (rw [hy123]; exact H) | exact H
       have Ny123 := Aside0.mk hy123
       clear hy123
       have H' := Aside0.mk H
       clear H
       have p119 : 0 ≤ (x9_1 : Int) := of_decide_eq_true (by first | (with_reducible assumption) | assumption)
       have q119 : x9_1 < (l1.length : Int) := of_decide_eq_true (by first | (with_reducible assumption) | assumption)
       obtain ⟨ad119, e119, hx119_0⟩ := Kd.at_int (Kd.C_kept_now HR1.out HK.out) x9_1 p119 q119
       cases e119
       replace p119 := eq_true p119
       replace q119 := eq_true q119
       go_wp2_with (first | ((with_reducible refine gate_dst (N := 19) rfl ?_); refine Kd.R_lit (Kd.int .u8) _ 5 ?hg (N := 19) ?hd (xs := ([((rd l1 x9_1) / 256) % 256, (rd l1 x9_1) % 256] : List Int)) (inner := [.int .u8 (((rd l1 x9_1) / 256) % 256), .int .u8 ((rd l1 x9_1) % 256)]) (ok := fun _ => True) (okp := fun _ => True) ?hr ?hp (fun _ hk => hk) trivial (Below.refl _ _) (Nat.le_refl _) (by simp) ?_; (case hd => rfl); (case hg => rfl); (case hr => first | (go_simp; done) | (go_simp; rfl)); (case hp => exact (Reps.one (show Kd.M (Kd.int .u8) _ _ _ (((rd l1 x9_1) / 256) % 256) [.int .u8 (((rd l1 x9_1) / 256) % 256)] from rfl) (Reps.one (show Kd.M (Kd.int .u8) _ _ _ ((rd l1 x9_1) % 256) [.int .u8 ((rd l1 x9_1) % 256)] from rfl) (Reps.none _ _)))); intro v121 w7 ho8 hb hg_ hnew_; clear hg_ hnew_; (first | rw [← Ny120.out] at ho8 | (simp only [Int.reduceToNat] at ho8; rw [← Ny120.out] at ho8)); have n0_ := Aside0.mk (Kd.R_elder' (by (with_reducible repeat (first | apply Kd.R_alloc | apply Kd.R_drewN | apply Kd.R_drew)); exact HO_0.out) (Kd.R_base ho8) hb); have n1_ := Aside0.mk (Kd.R_lower (Kd.R_new' (Kd.R_newM (M := fun k_ => (P0_ k_ ∨ w.heap.size ≤ k_)) ho8 (by first | exact HK.out.1 | exact (show Kept w _ (fun k_ => P0_ k_) from by repeat (first | (with_reducible first | exact HK.out | apply Kept.alloc | apply Kept.drewN | apply Kept.drew) | exact HK.out)).1) (fun k_ h_ => .inr h_)) (Kd.R_lt (by (with_reducible repeat (first | apply Kd.R_alloc | apply Kd.R_drewN | apply Kd.R_drew)); exact HO_0.out))) (below_size (by repeat (first | (with_reducible first | exact HB.out | apply below_alloc | apply pw_below_drewN | apply below_drew1) | exact HB.out)))); have n2_ := Aside0.mk (Kept.below (S := (fun k_ => P0_ k_)) (by repeat (first | (with_reducible first | exact HK.out | apply Kept.alloc | apply Kept.drewN | apply Kept.drew) | exact HK.out)) hb); have n3_ := Aside0.mk (below_step (by repeat (first | (with_reducible first | exact HB.out | apply below_alloc | apply pw_below_drewN | apply below_drew1) | exact HB.out)) hb); clear HO_0; clear HK; clear HB; have HO_0 := n0_; have HO122 := n1_; have HK := n2_; have HB := n3_; clear n0_ n1_ n2_ n3_; clear hb ho8; obtain ⟨Ao10, co10, eo10⟩ := Kd.R_slice HO122.out; subst eo10) | ((with_reducible refine gate_builtin (b := .append) (xs := #[.tmp 13, .tmp 19]) rfl ?_); at_builtin; refine Kd.R_append_rows (Kd.int .u8) (w0 := w0) w0.heap.size rfl (.tmp 13) (.tmp 19) 43 5 (.int .u8 0) 1 rfl Try.underlying43 info5 rfl (by decide) (by omega) u0 x0_1 y120 _ _ _ (fun k_ => (P0_ k_ ∨ w.heap.size ≤ k_) ∧ some k_ ≠ (.slice Ao10 y120.length co10 : Value).ownBlock) (fun _ => False) rfl rfl ?aO ?aR (fun _ _ h => h) (fun _ h => h.elim) ?aF ?aB ?aS ?aL ?_; (case aR => repeat (first | exact (Kd.R_reads' HO122.out).2.2 | (with_reducible refine Kd.C_alloc ?_ _) | (with_reducible refine Kd.C_drewN ?_ _) | (with_reducible refine Kd.C_drew ?_))); (case aB => exact (by repeat (first | (with_reducible first | exact HB.out | apply below_alloc | apply pw_below_drewN | apply below_drew1) | exact HB.out))); (case aF => exact (fun k_ hk => ⟨(.inr (Nat.le_trans (by first | exact HK.out.1 | exact (show Kept w _ (fun k_ => P0_ k_) from by repeat (first | (with_reducible first | exact HK.out | apply Kept.alloc | apply Kept.drewN | apply Kept.drew) | exact HK.out)).1) hk)), Kd.fresh' (Kd.R_lt (by (with_reducible repeat (first | apply Kd.R_alloc | apply Kd.R_drewN | apply Kd.R_drew)); exact HO122.out)) k_ hk⟩)); (case aO => exact (by (with_reducible repeat (first | apply Kd.R_alloc | apply Kd.R_drewN | apply Kd.R_drew)); exact HO_0.out)); (case aS => exact (below_size (by repeat (first | (with_reducible first | exact HB.out | apply below_alloc | apply pw_below_drewN | apply below_drew1) | exact HB.out)))); (case aL => have := LMc6.out; omega); intro v124 w9 ho hb hg hat; rw [← Ny123.out] at ho; have n0_ := Aside0.mk (Kd.R_after (ok := (fun k_ => (P0_ k_ ∨ w.heap.size ≤ k_))) (by (with_reducible repeat (first | apply Kd.R_alloc | apply Kd.R_drewN | apply Kd.R_drew)); exact Kd.R_mono HO122.out (fun _ hk => ⟨hk.1.1, hk.2⟩)) hg hat); have n1_ := Aside0.mk (hb); have n2_ := Aside0.mk (Kept.of_grown (S := (fun k_ => P0_ k_)) hg (by repeat (first | (with_reducible first | exact HK.out | apply Kept.alloc | apply Kept.drewN | apply Kept.drew) | exact HK.out)) (fun k_ e_ => (HO_0.out.1 k_ e_).1)); have n3_ := Aside0.mk (ho); clear HO122; clear HB; clear HK; clear HO_0; have HO122 := n0_; have HB := n1_; have HK := n2_; have HO125 := n3_; clear n0_ n1_ n2_ n3_; clear ho hb hg hat))
       go_roundg k1
       case measure => have := HK1.out; omega
       case rel => exact ⟨(y123), (wrap64 (x9_1 + 1)), (by first | rfl | (simp; done) | (simp [*]; done)), H', ⟨by have := HK1.out; omega⟩, ⟨by (with_reducible repeat (first | apply Kd.R_alloc | apply Kd.R_drewN | apply Kd.R_drew)); exact Kd.R_mono HO125.out (fun _ hk => hk.1)⟩, ⟨by repeat (first | (with_reducible first | exact HK.out | apply Kept.alloc | apply Kept.drewN | apply Kept.drew) | exact HK.out)⟩, ⟨by repeat (first | (with_reducible first | exact HB.out | apply below_alloc | apply pw_below_drewN | apply below_drew1) | exact HB.out)⟩⟩
      ·rw [if_neg c6] at H
       exact absurd H (by simp)
     ·rw [if_neg c5] at H
      exact absurd H (by simp)
    ·rw [if_neg c4] at H
     exact absurd H (by simp)
   ·rw [if_neg c3] at H
    have c3b0 : decide (x9_1 < (l1.length : Int)) = false := decide_eq_false c3
    clear c3
    obtain rfl := Option.some.inj H
    go_wp2
    go_ret
    exact ⟨_, by first | rfl | (simp [errW_none, errW_some] <;> rfl) | (simp [*, errW_none, errW_some] <;> rfl) | (((first | rw [pw_wdiv _ _ (by omega) (by omega)] | rw [pw_wdiv' _ _ (by omega) (by omega)] | rw [Go.IntWalk.wrap64_in _ (by omega)]); repeat (first | rw [pw_wdiv _ _ (by omega) (by omega)] | rw [pw_wdiv' _ _ (by omega) (by omega)] | rw [Go.IntWalk.wrap64_in _ (by omega)])); rfl), by (with_reducible repeat (first | apply Kd.R_alloc | apply Kd.R_drewN | apply Kd.R_drew)); exact HO_0.out, by repeat (first | (with_reducible first | exact HB.out | apply below_alloc | apply pw_below_drewN | apply below_drew1) | exact HB.out), by repeat (first | (with_reducible first | exact HK.out | apply Kept.alloc | apply Kept.drewN | apply Kept.drew) | exact HK.out)⟩

/-! ### cmap_long: function 28 -/
def cmap_long.l0 : Nat → List Int → List Int → Int → Int → Option (List Int)
 | 0, _, _, _, _ => none
 | k + 1, x0, x7, x8, x9 => if x9 < x8 then (if 0 ≤ x9 then (if x9 < (x7.length : Int) then ((cmap_put.f k x0 (([(rd x7 x9) / 65536, rd x7 x9] : List Int))).bind fun t130 => (cmap_long.l0 k t130 x7 x8 (wrap64 (x9 + 1)))) else (none)) else (none)) else (some x0)
def cmap_long.f (k : Nat) (l0 : List Int) (l1 : List Int) : Option (List Int) := cmap_long.l0 k l0 l1 (l1.length : Int) 0
theorem cmap_long.mono_l : ∀ k, (∀ y0 y1 y2 y3, LeO (cmap_long.l0 k y0 y1 y2 y3) (cmap_long.l0 (k + 1) y0 y1 y2 y3))
 | 0 => fun _ _ _ _ r h => by simp [cmap_long.l0] at h
 | k + 1 => by
  have ih0 := cmap_long.mono_l k
  ·intro y0 y1 y2 y3
   unfold cmap_long.l0
   repeat' first
   | (with_reducible exact ih0 _ _ _ _)
   | (with_reducible exact cmap_put.mono _ _ _)
   | (with_reducible exact LeO.refl _)
   | (with_reducible exact LeO.none _)
   | (with_reducible refine LeO.ite ?_ ?_)
   | (with_reducible refine LeO.bind ?_ (fun _ => ?_))
   | exact ih0 _ _ _ _
   | exact cmap_put.mono _ _ _
   | exact LeO.none _
   | refine LeO.ite ?_ ?_
   | refine LeO.bind ?_ (fun _ => ?_)
theorem cmap_long.mono : ∀ a0 a1 k, LeO (cmap_long.f k a0 a1) (cmap_long.f (k + 1) a0 a1) := by
 intro a0 a1 k
 have ih0 := cmap_long.mono_l k
 unfold cmap_long.f
 repeat' first
   | (with_reducible exact ih0 _ _ _ _)
   | (with_reducible exact cmap_put.mono _ _ _)
   | (with_reducible exact LeO.refl _)
   | (with_reducible exact LeO.none _)
   | (with_reducible refine LeO.ite ?_ ?_)
   | (with_reducible refine LeO.bind ?_ (fun _ => ?_))
   | exact ih0 _ _ _ _
   | exact cmap_put.mono _ _ _
   | exact LeO.none _
   | refine LeO.ite ?_ ?_
   | refine LeO.bind ?_ (fun _ => ?_)
set_option maxHeartbeats 8000000 in
set_option maxRecDepth 100000 in
theorem cmap_long.calls (k : Nat) (P0_ : Nat → Prop) (u9000_ : Value) (l0 : List Int) (A1 : Option Addr) (c1 : Nat) (l1 : List Int) (r : List Int) (w0 w : World) (hB : Below w0.heap.size w0 w) (ho0 : Kd.R (Kd.int .u8) 5 w w0.heap.size P0_ u9000_ l0) (hr1 : ∀ W_, Kept w W_ (fun k_ => P0_ k_) → Kd.C (Kd.int .i64) W_ A1 l1.length l1) (hc1 : l1.length ≤ c1) (h : cmap_long.f k l0 l1 = some r) :
  Calls Try.prog 28 #[u9000_, .slice A1 l1.length c1] w fun e w' => ∃ v0_ : Value, e = .returned (v0_) ∧ Kd.R (Kd.int .u8) 5 w' w0.heap.size (fun k_ => (P0_ k_ ∨ w.heap.size ≤ k_)) v0_ r ∧ Below w0.heap.size w0 w' ∧ Kept w w' (fun k_ => P0_ k_) := by
 have HO0 := Aside0.mk (show Kd.R (Kd.int .u8) 5 w w0.heap.size (fun k_ => (P0_ k_ ∨ w.heap.size ≤ k_)) u9000_ l0 from Kd.R_mono ho0 (fun k_ hk => (.inl hk)))
 have HR1 := Aside0.mk hr1
 have HC1 := Aside0.mk hc1
 clear hr1 hc1
 have HK := Aside0.mk (Kept.refl w (fun k_ => P0_ k_))
 have HW0 := Aside0.mk hB.size
 have HB := Aside0.mk hB
 clear hB
 have H : (cmap_long.l0 k l0 l1 (l1.length : Int) 0) = some r := h
 clear h
 have H' := Aside0.mk H
 clear H
 go_enter Try.func28, Try.ntmps28
 go_wp2
 go_loopg [0, 9] k (fun kq v0 v9 w' => ∃ (x0_1 : List Int) (x9_1 : Int), v9 = .int .i64 x9_1 ∧ Aside0 (cmap_long.l0 kq x0_1 l1 (l1.length : Int) x9_1 = some r) ∧ Aside0 (kq ≤ k) ∧ Aside0 (Kd.R (Kd.int .u8) 5 w' w0.heap.size (fun k_ => (P0_ k_ ∨ w.heap.size ≤ k_)) v0 x0_1) ∧ Aside0 (Kept w w' (fun k_ => P0_ k_)) ∧ Aside0 (Below w0.heap.size w0 w'))
 case atStart => exact ⟨(l0), (0), (by first | rfl | (simp; done) | (simp [*]; done)), H', ⟨Nat.le_refl _⟩, ⟨by (with_reducible repeat (first | apply Kd.R_alloc | apply Kd.R_drewN | apply Kd.R_drew)); exact HO0.out⟩, ⟨by repeat (first | (with_reducible first | exact HK.out | apply Kept.alloc | apply Kept.drewN | apply Kept.drew) | exact HK.out)⟩, ⟨by repeat (first | (with_reducible first | exact HB.out | apply below_alloc | apply pw_below_drewN | apply below_drew1) | exact HB.out)⟩⟩
 case round =>
  clear H'
  try clear c1
  try clear c2
  try clear p2
  obtain ⟨x0_1, x9_1, rfl, HA, HK1, HO_0, HK, HB⟩ := hrel
  cases gk with
  | zero => exact absurd HA.out (by simp [cmap_long.l0])
  | succ k1 =>
   have H := HA.out
   clear HA
   simp only [cmap_long.l0] at H
   by_cases c3 : x9_1 < (l1.length : Int)
   ·rw [if_pos c3] at H
    have c3b0 : decide (x9_1 < (l1.length : Int)) = true := decide_eq_true c3
    clear c3
    by_cases c4 : 0 ≤ x9_1
    ·rw [if_pos c4] at H
     have c4b0 : decide (0 ≤ x9_1) = true := decide_eq_true c4
     clear c4
     by_cases c5 : x9_1 < (l1.length : Int)
     ·rw [if_pos c5] at H
      have c5b0 : decide (x9_1 < (l1.length : Int)) = true := decide_eq_true c5
      clear c5
      obtain ⟨y127, hy127⟩ : ∃ y_ : List Int, y_ = (([(rd l1 x9_1) / 65536, rd l1 x9_1] : List Int)) := ⟨_, rfl⟩
      replace H : ((cmap_put.f k1 x0_1 y127).bind fun t130 => (cmap_long.l0 k1 t130 l1 (l1.length : Int) (wrap64 (x9_1 + 1)))) = some r := by first | (rw [hy127]; with_reducible exact H) | (have H2_ := (Option.bind_some _ _).symm.trans H; rw [hy127]; with_reducible exact H2_) | (have H2_ := (Option.bind_some _ _).symm.trans H; with_reducible exact H2_) | with_reducible exact H | (rw [hy127]; exact H) | exact H
      have Ny127 := Aside0.mk hy127
      clear hy127
      replace H := Option.bind_eq_some_iff.mp H
      obtain ⟨t130, A60, H⟩ := H
      (try dsimp only at H)
      have A6 := Aside0.mk A60
      clear A60
      have H' := Aside0.mk H
      clear H
      have p126 : 0 ≤ (x9_1 : Int) := of_decide_eq_true (by first | (with_reducible assumption) | assumption)
      have q126 : x9_1 < (l1.length : Int) := of_decide_eq_true (by first | (with_reducible assumption) | assumption)
      obtain ⟨ad126, e126, hx126_0⟩ := Kd.at_int (Kd.C_kept_now HR1.out HK.out) x9_1 p126 q126
      cases e126
      replace p126 := eq_true p126
      replace q126 := eq_true q126
      go_wp2_with (first | ((with_reducible refine gate_dst (N := 17) rfl ?_); refine Kd.R_lit (Kd.int .i64) _ 3 ?hg (N := 17) ?hd (xs := ([(rd l1 x9_1) / 65536, rd l1 x9_1] : List Int)) (inner := [.int .i64 ((rd l1 x9_1) / 65536), .int .i64 (rd l1 x9_1)]) (ok := fun _ => True) (okp := fun _ => True) ?hr ?hp (fun _ hk => hk) trivial (Below.refl _ _) (Nat.le_refl _) (by simp) ?_; (case hd => rfl); (case hg => rfl); (case hr => first | (go_simp; done) | (go_simp; rfl)); (case hp => exact (Reps.one (show Kd.M (Kd.int .i64) _ _ _ ((rd l1 x9_1) / 65536) [.int .i64 ((rd l1 x9_1) / 65536)] from rfl) (Reps.one (show Kd.M (Kd.int .i64) _ _ _ (rd l1 x9_1) [.int .i64 (rd l1 x9_1)] from rfl) (Reps.none _ _)))); intro v128 w7 ho8 hb hg_ hnew_; clear hg_ hnew_; (first | rw [← Ny127.out] at ho8 | (simp only [Int.reduceToNat] at ho8; rw [← Ny127.out] at ho8)); have n0_ := Aside0.mk (Kd.R_below (by (with_reducible repeat (first | apply Kd.R_alloc | apply Kd.R_drewN | apply Kd.R_drew)); exact HO_0.out) hb); have n1_ := Aside0.mk (Kd.R_lower (Kd.R_newM (M := fun k_ => (P0_ k_ ∨ w.heap.size ≤ k_)) ho8 (by first | exact HK.out.1 | exact (show Kept w _ (fun k_ => P0_ k_) from by repeat (first | (with_reducible first | exact HK.out | apply Kept.alloc | apply Kept.drewN | apply Kept.drew) | exact HK.out)).1) (fun k_ h_ => .inr h_)) (below_size (by repeat (first | (with_reducible first | exact HB.out | apply below_alloc | apply pw_below_drewN | apply below_drew1) | exact HB.out)))); have n2_ := Aside0.mk (Kept.below (S := (fun k_ => P0_ k_)) (by repeat (first | (with_reducible first | exact HK.out | apply Kept.alloc | apply Kept.drewN | apply Kept.drew) | exact HK.out)) hb); have n3_ := Aside0.mk (below_step (by repeat (first | (with_reducible first | exact HB.out | apply below_alloc | apply pw_below_drewN | apply below_drew1) | exact HB.out)) hb); clear HO_0; clear HK; clear HB; have HO_0 := n0_; have HO129 := n1_; have HK := n2_; have HB := n3_; clear n0_ n1_ n2_ n3_; clear hb ho8; obtain ⟨Ao9, co9, eo9⟩ := Kd.R_slice HO_0.out; subst eo9; obtain ⟨Ao10, co10, eo10⟩ := Kd.R_slice HO129.out; subst eo10) | ((with_reducible refine gate_callee (f := 29) rfl ?_); refine goesL_ (some 18) rfl rfl Try.func29 (by kernel_rfl) rfl #[.slice Ao9 x0_1.length co9, .slice Ao10 y127.length co10] rfl (by (try simp only [List.map_toArray, List.map_cons, List.map_nil]); first | done | rfl | (simp only [List.length_drop, List.length_take]; rfl)) ?_; (with_reducible refine (cmap_put.calls k1 (fun k_ => some k_ = (.slice Ao9 x0_1.length co9 : Value).ownBlock) (.slice Ao9 x0_1.length co9) x0_1 _ _ y127 t130 w0 _ ?side1 ?side2 ?side3 ?side4 A6.out).mono ?_); (case side1 => repeat (first | (with_reducible first | exact HB.out | apply below_alloc | apply pw_below_drewN | apply below_drew1) | exact HB.out)); (case side2 => exact Kd.R_tight rfl HO_0.out); (case side3 => exact Kd.C_kept_own ((Kd.R_apart' HO129.out (Kd.R_typed HO_0.out) (by decide))) (fun k_ hk_ hs_ => (hk_.2) hs_)); (case side4 => exact (Kd.R_reads' HO129.out).2.1); rintro e w11 ⟨v131, rfl, ho0, hb, hkp⟩; refine ⟨_, rfl, ?_⟩; have n0_ := Aside0.mk (Kd.R_mono (ok' := fun k_ => (P0_ k_ ∨ w.heap.size ≤ k_)) (Kd.R_keptB ((Kd.R_apart' HO129.out (Kd.R_typed HO_0.out) (by decide))) hkp (fun k_ hk_ hs_ => (hk_.2) hs_)) (fun k_ hk_ => hk_.1.1.1)); have n1_ := Aside0.mk (Kd.R_mono (ok' := fun k_ => (P0_ k_ ∨ w.heap.size ≤ k_)) ho0 (fun k_ hk_ => Or.elim hk_ (fun hs_ => (HO_0.out.1 k_ (hs_).symm)) (fun hn_ => (.inr (Nat.le_trans (by first | exact HK.out.1 | exact (show Kept w _ (fun k_ => P0_ k_) from by repeat (first | (with_reducible first | exact HK.out | apply Kept.alloc | apply Kept.drewN | apply Kept.drew) | exact HK.out)).1) hn_))))); have n2_ := Aside0.mk (Kept.then_ (S := (fun k_ => P0_ k_)) (by repeat (first | (with_reducible first | exact HK.out | apply Kept.alloc | apply Kept.drewN | apply Kept.drew) | exact HK.out)) hkp (fun k_ hs_ => (fun e_ => (HO_0.out.1 k_ e_.symm)) hs_)); have n3_ := Aside0.mk (hb); clear HO129; clear HK; clear HB; clear HO_0; have HO129 := n0_; have HO132 := n1_; have HK := n2_; have HB := n3_; clear n0_ n1_ n2_ n3_; (try clear hb); (try clear hkp); (try clear ho0)))
      go_roundg k1
      case measure => have := HK1.out; omega
      case rel => exact ⟨(t130), (wrap64 (x9_1 + 1)), (by first | rfl | (simp; done) | (simp [*]; done)), H', ⟨by have := HK1.out; omega⟩, ⟨by (with_reducible repeat (first | apply Kd.R_alloc | apply Kd.R_drewN | apply Kd.R_drew)); exact HO132.out⟩, ⟨by repeat (first | (with_reducible first | exact HK.out | apply Kept.alloc | apply Kept.drewN | apply Kept.drew) | exact HK.out)⟩, ⟨by repeat (first | (with_reducible first | exact HB.out | apply below_alloc | apply pw_below_drewN | apply below_drew1) | exact HB.out)⟩⟩
     ·rw [if_neg c5] at H
      exact absurd H (by simp)
    ·rw [if_neg c4] at H
     exact absurd H (by simp)
   ·rw [if_neg c3] at H
    have c3b0 : decide (x9_1 < (l1.length : Int)) = false := decide_eq_false c3
    clear c3
    obtain rfl := Option.some.inj H
    go_wp2
    go_ret
    exact ⟨_, by first | rfl | (simp [errW_none, errW_some] <;> rfl) | (simp [*, errW_none, errW_some] <;> rfl) | (((first | rw [pw_wdiv _ _ (by omega) (by omega)] | rw [pw_wdiv' _ _ (by omega) (by omega)] | rw [Go.IntWalk.wrap64_in _ (by omega)]); repeat (first | rw [pw_wdiv _ _ (by omega) (by omega)] | rw [pw_wdiv' _ _ (by omega) (by omega)] | rw [Go.IntWalk.wrap64_in _ (by omega)])); rfl), by (with_reducible repeat (first | apply Kd.R_alloc | apply Kd.R_drewN | apply Kd.R_drew)); exact HO_0.out, by repeat (first | (with_reducible first | exact HB.out | apply below_alloc | apply pw_below_drewN | apply below_drew1) | exact HB.out), by repeat (first | (with_reducible first | exact HK.out | apply Kept.alloc | apply Kept.drewN | apply Kept.drew) | exact HK.out)⟩

end Go.Proofs.Ytldcgkkbmnahiaa.Px
