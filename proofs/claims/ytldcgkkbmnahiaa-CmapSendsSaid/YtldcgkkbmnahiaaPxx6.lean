-- Lean text written by this session's own program (wip/tools/myprint.py) for this claim
import Derived.Test.YtldcgkkbmnahiaaPxx0
import Derived.Test.YtldcgkkbmnahiaaPxx5
namespace Go.Proofs.Ytldcgkkbmnahiaa.Px
open Go.RowKit Go.Proofs.YtldcgkkbmnahiaaW.PrintWords Go.Proofs.YtldcgkkbmnahiaaW.PrintLast Go.Proofs.YtldcgkkbmnahiaaW.PrintMore
attribute [local go_sem] pw_max2 pw_min2 max_two min_two max_three min_three max_four min_four   -- for this text's walks alone
set_option linter.unusedVariables false
set_option linter.unusedSimpArgs false

/-! ### cmap_Build: function 16 -/
mutual
def cmap_Build.l0 : Nat → List Int → List (S47) → Int → Int → Option (ByteArray × Int)
 | 0, _, _, _, _ => none
 | k + 1, x6, x37, x38, x39 => if x39 < x38 then (if 0 ≤ x39 then (if x39 < (x37.length : Int) then ((cmap_long.f k x6 (([(rd_T47 x37 x39).f0, (rd_T47 x37 x39).f1, (rd_T47 x37 x39).f2] : List Int))).bind fun t157 => (cmap_Build.l0 k t157 x37 x38 (wrap64 (x39 + 1)))) else (none)) else (none)) else (some (strOfNums x6, 0))
def cmap_Build.j1 : Nat → List (S47) → Bool → Option (ByteArray × Int)
 | 0, _, _ => none
 | k + 1, x0, x72 => if x72 = true then (some ((⟨#[]⟩ : ByteArray), 110)) else (if ([] : List (S47)).length + x0.length < 5864062014805 then ((some (([] : List (S47)) ++ x0 : List (S47))).bind fun y161 => (if y161.length < 5864062014805 then ((some (y161 ++ [(⟨65535, 65535, 65536⟩ : S47)] : List (S47))).bind fun y164 => (cmap_Build.l1 k y164 (y164.length : Int) 1 0)) else (none))) else (none))
def cmap_Build.l1 : Nat → List (S47) → Int → Int → Int → Option (ByteArray × Int)
 | 0, _, _, _, _ => none
 | k + 1, x9, x10, x11, x12 => if (wrap64 (2 * x11)) ≤ x10 then (cmap_Build.l1 k x9 x10 (wrap64 (2 * x11)) (wrap64 (x12 + 1))) else ((cmap_put.f k ([] : List Int) (([0, 1, 3, 1] : List Int))).bind fun t170 => ((cmap_long.f k t170 (([12] : List Int))).bind fun t176 => ((cmap_put.f k t176 (([4, wrap64 (16 + (wrap64 (8 * x10))), 0, wrap64 (2 * x10), wrap64 (2 * x11), x12, wrap64 ((wrap64 (2 * x10)) - (wrap64 (2 * x11)))] : List Int))).bind fun t182 => (cmap_Build.l2 k x9 x10 t182 x9 (x9.length : Int) 0))))
def cmap_Build.l2 : Nat → List (S47) → Int → List Int → List (S47) → Int → Int → Option (ByteArray × Int)
 | 0, _, _, _, _, _, _ => none
 | k + 1, x9, x10, x13, x108, x109, x110 => if x110 < x109 then (if 0 ≤ x110 then (if x110 < (x108.length : Int) then ((cmap_put.f k x13 (([(rd_T47 x108 x110).f1] : List Int))).bind fun t190 => (cmap_Build.l2 k x9 x10 t190 x108 x109 (wrap64 (x110 + 1)))) else (none)) else (none)) else ((cmap_put.f k x13 (([0] : List Int))).bind fun t196 => (cmap_Build.l3 k x9 x10 t196 x9 (x9.length : Int) 0))
def cmap_Build.l3 : Nat → List (S47) → Int → List Int → List (S47) → Int → Int → Option (ByteArray × Int)
 | 0, _, _, _, _, _, _ => none
 | k + 1, x9, x10, x13, x123, x124, x125 => if x125 < x124 then (if 0 ≤ x125 then (if x125 < (x123.length : Int) then ((cmap_put.f k x13 (([(rd_T47 x123 x125).f0] : List Int))).bind fun t204 => (cmap_Build.l3 k x9 x10 t204 x123 x124 (wrap64 (x125 + 1)))) else (none)) else (none)) else (cmap_Build.l4 k x10 x13 x9 (x9.length : Int) 0)
def cmap_Build.l4 : Nat → Int → List Int → List (S47) → Int → Int → Option (ByteArray × Int)
 | 0, _, _, _, _, _ => none
 | k + 1, x10, x13, x135, x136, x137 => if x137 < x136 then (if 0 ≤ x137 then (if x137 < (x135.length : Int) then ((cmap_put.f k x13 (([wrap64 (((rd_T47 x135 x137).f2) - ((rd_T47 x135 x137).f0))] : List Int))).bind fun t212 => (cmap_Build.l4 k x10 t212 x135 x136 (wrap64 (x137 + 1)))) else (none)) else (none)) else (if 0 ≤ (wrap64 (2 * x10)) then (if x13.length + (wrap64 (2 * x10) : Int).toNat < 140737488355328 then (some (strOfNums (x13 ++ List.replicate (wrap64 (2 * x10) : Int).toNat 0), 0)) else (none)) else (none))
end
def cmap_Build.f (k : Nat) (l0 : List (S47)) (a1 : Bool) : Option (ByteArray × Int) := (cmap_Good.f k l0 4096).bind fun t133 => (if t133 = true then (if a1 = true then ((cmap_put.f k ([] : List Int) (([0, 1, 3, 10] : List Int))).bind fun t137 => ((cmap_long.f k t137 (([12] : List Int))).bind fun t143 => ((cmap_long.f k t143 (([786432, wrap64 (16 + (wrap64 (12 * (l0.length : Int)))), 0, (l0.length : Int)] : List Int))).bind fun t149 => (cmap_Build.l0 k t149 l0 (l0.length : Int) 0)))) else (if (l0.length : Int) > 4095 then (cmap_Build.j1 k l0 true) else (if (l0.length : Int) > 0 then (if 0 ≤ (wrap64 ((l0.length : Int) - 1)) then (if (wrap64 ((l0.length : Int) - 1)) < (l0.length : Int) then (cmap_Build.j1 k l0 (decide (((rd_T47 l0 (wrap64 ((l0.length : Int) - 1))).f1) > 65534))) else (none)) else (none)) else (cmap_Build.j1 k l0 false)))) else (some ((⟨#[]⟩ : ByteArray), 110)))
theorem cmap_Build.mono_l : ∀ k, (∀ y0 y1 y2 y3, LeO (cmap_Build.l0 k y0 y1 y2 y3) (cmap_Build.l0 (k + 1) y0 y1 y2 y3)) ∧ (∀ y0 y1, LeO (cmap_Build.j1 k y0 y1) (cmap_Build.j1 (k + 1) y0 y1)) ∧ (∀ y0 y1 y2 y3, LeO (cmap_Build.l1 k y0 y1 y2 y3) (cmap_Build.l1 (k + 1) y0 y1 y2 y3)) ∧ (∀ y0 y1 y2 y3 y4 y5, LeO (cmap_Build.l2 k y0 y1 y2 y3 y4 y5) (cmap_Build.l2 (k + 1) y0 y1 y2 y3 y4 y5)) ∧ (∀ y0 y1 y2 y3 y4 y5, LeO (cmap_Build.l3 k y0 y1 y2 y3 y4 y5) (cmap_Build.l3 (k + 1) y0 y1 y2 y3 y4 y5)) ∧ (∀ y0 y1 y2 y3 y4, LeO (cmap_Build.l4 k y0 y1 y2 y3 y4) (cmap_Build.l4 (k + 1) y0 y1 y2 y3 y4))
 | 0 => ⟨fun _ _ _ _ r h => by simp [cmap_Build.l0] at h, fun _ _ r h => by simp [cmap_Build.j1] at h, fun _ _ _ _ r h => by simp [cmap_Build.l1] at h, fun _ _ _ _ _ _ r h => by simp [cmap_Build.l2] at h, fun _ _ _ _ _ _ r h => by simp [cmap_Build.l3] at h, fun _ _ _ _ _ r h => by simp [cmap_Build.l4] at h⟩
 | k + 1 => by
  obtain ⟨ih0, ih1, ih2, ih3, ih4, ih5⟩ := cmap_Build.mono_l k
  refine ⟨?_, ?_, ?_, ?_, ?_, ?_⟩
  ·intro y0 y1 y2 y3
   unfold cmap_Build.l0
   repeat' first
   | (with_reducible exact ih0 _ _ _ _)
   | (with_reducible exact ih1 _ _)
   | (with_reducible exact ih2 _ _ _ _)
   | (with_reducible exact ih3 _ _ _ _ _ _)
   | (with_reducible exact ih4 _ _ _ _ _ _)
   | (with_reducible exact ih5 _ _ _ _ _)
   | (with_reducible exact cmap_Good.mono _ _ _)
   | (with_reducible exact cmap_long.mono _ _ _)
   | (with_reducible exact cmap_put.mono _ _ _)
   | (with_reducible exact LeO.refl _)
   | (with_reducible exact LeO.none _)
   | (with_reducible refine LeO.ite ?_ ?_)
   | (with_reducible refine LeO.bind ?_ (fun _ => ?_))
   | exact ih0 _ _ _ _
   | exact ih1 _ _
   | exact ih2 _ _ _ _
   | exact ih3 _ _ _ _ _ _
   | exact ih4 _ _ _ _ _ _
   | exact ih5 _ _ _ _ _
   | exact cmap_Good.mono _ _ _
   | exact cmap_long.mono _ _ _
   | exact cmap_put.mono _ _ _
   | exact LeO.none _
   | refine LeO.ite ?_ ?_
   | refine LeO.bind ?_ (fun _ => ?_)
  ·intro y0 y1
   unfold cmap_Build.j1
   repeat' first
   | (with_reducible exact ih0 _ _ _ _)
   | (with_reducible exact ih1 _ _)
   | (with_reducible exact ih2 _ _ _ _)
   | (with_reducible exact ih3 _ _ _ _ _ _)
   | (with_reducible exact ih4 _ _ _ _ _ _)
   | (with_reducible exact ih5 _ _ _ _ _)
   | (with_reducible exact cmap_Good.mono _ _ _)
   | (with_reducible exact cmap_long.mono _ _ _)
   | (with_reducible exact cmap_put.mono _ _ _)
   | (with_reducible exact LeO.refl _)
   | (with_reducible exact LeO.none _)
   | (with_reducible refine LeO.ite ?_ ?_)
   | (with_reducible refine LeO.bind ?_ (fun _ => ?_))
   | exact ih0 _ _ _ _
   | exact ih1 _ _
   | exact ih2 _ _ _ _
   | exact ih3 _ _ _ _ _ _
   | exact ih4 _ _ _ _ _ _
   | exact ih5 _ _ _ _ _
   | exact cmap_Good.mono _ _ _
   | exact cmap_long.mono _ _ _
   | exact cmap_put.mono _ _ _
   | exact LeO.none _
   | refine LeO.ite ?_ ?_
   | refine LeO.bind ?_ (fun _ => ?_)
  ·intro y0 y1 y2 y3
   unfold cmap_Build.l1
   repeat' first
   | (with_reducible exact ih0 _ _ _ _)
   | (with_reducible exact ih1 _ _)
   | (with_reducible exact ih2 _ _ _ _)
   | (with_reducible exact ih3 _ _ _ _ _ _)
   | (with_reducible exact ih4 _ _ _ _ _ _)
   | (with_reducible exact ih5 _ _ _ _ _)
   | (with_reducible exact cmap_Good.mono _ _ _)
   | (with_reducible exact cmap_long.mono _ _ _)
   | (with_reducible exact cmap_put.mono _ _ _)
   | (with_reducible exact LeO.refl _)
   | (with_reducible exact LeO.none _)
   | (with_reducible refine LeO.ite ?_ ?_)
   | (with_reducible refine LeO.bind ?_ (fun _ => ?_))
   | exact ih0 _ _ _ _
   | exact ih1 _ _
   | exact ih2 _ _ _ _
   | exact ih3 _ _ _ _ _ _
   | exact ih4 _ _ _ _ _ _
   | exact ih5 _ _ _ _ _
   | exact cmap_Good.mono _ _ _
   | exact cmap_long.mono _ _ _
   | exact cmap_put.mono _ _ _
   | exact LeO.none _
   | refine LeO.ite ?_ ?_
   | refine LeO.bind ?_ (fun _ => ?_)
  ·intro y0 y1 y2 y3 y4 y5
   unfold cmap_Build.l2
   repeat' first
   | (with_reducible exact ih0 _ _ _ _)
   | (with_reducible exact ih1 _ _)
   | (with_reducible exact ih2 _ _ _ _)
   | (with_reducible exact ih3 _ _ _ _ _ _)
   | (with_reducible exact ih4 _ _ _ _ _ _)
   | (with_reducible exact ih5 _ _ _ _ _)
   | (with_reducible exact cmap_Good.mono _ _ _)
   | (with_reducible exact cmap_long.mono _ _ _)
   | (with_reducible exact cmap_put.mono _ _ _)
   | (with_reducible exact LeO.refl _)
   | (with_reducible exact LeO.none _)
   | (with_reducible refine LeO.ite ?_ ?_)
   | (with_reducible refine LeO.bind ?_ (fun _ => ?_))
   | exact ih0 _ _ _ _
   | exact ih1 _ _
   | exact ih2 _ _ _ _
   | exact ih3 _ _ _ _ _ _
   | exact ih4 _ _ _ _ _ _
   | exact ih5 _ _ _ _ _
   | exact cmap_Good.mono _ _ _
   | exact cmap_long.mono _ _ _
   | exact cmap_put.mono _ _ _
   | exact LeO.none _
   | refine LeO.ite ?_ ?_
   | refine LeO.bind ?_ (fun _ => ?_)
  ·intro y0 y1 y2 y3 y4 y5
   unfold cmap_Build.l3
   repeat' first
   | (with_reducible exact ih0 _ _ _ _)
   | (with_reducible exact ih1 _ _)
   | (with_reducible exact ih2 _ _ _ _)
   | (with_reducible exact ih3 _ _ _ _ _ _)
   | (with_reducible exact ih4 _ _ _ _ _ _)
   | (with_reducible exact ih5 _ _ _ _ _)
   | (with_reducible exact cmap_Good.mono _ _ _)
   | (with_reducible exact cmap_long.mono _ _ _)
   | (with_reducible exact cmap_put.mono _ _ _)
   | (with_reducible exact LeO.refl _)
   | (with_reducible exact LeO.none _)
   | (with_reducible refine LeO.ite ?_ ?_)
   | (with_reducible refine LeO.bind ?_ (fun _ => ?_))
   | exact ih0 _ _ _ _
   | exact ih1 _ _
   | exact ih2 _ _ _ _
   | exact ih3 _ _ _ _ _ _
   | exact ih4 _ _ _ _ _ _
   | exact ih5 _ _ _ _ _
   | exact cmap_Good.mono _ _ _
   | exact cmap_long.mono _ _ _
   | exact cmap_put.mono _ _ _
   | exact LeO.none _
   | refine LeO.ite ?_ ?_
   | refine LeO.bind ?_ (fun _ => ?_)
  ·intro y0 y1 y2 y3 y4
   unfold cmap_Build.l4
   repeat' first
   | (with_reducible exact ih0 _ _ _ _)
   | (with_reducible exact ih1 _ _)
   | (with_reducible exact ih2 _ _ _ _)
   | (with_reducible exact ih3 _ _ _ _ _ _)
   | (with_reducible exact ih4 _ _ _ _ _ _)
   | (with_reducible exact ih5 _ _ _ _ _)
   | (with_reducible exact cmap_Good.mono _ _ _)
   | (with_reducible exact cmap_long.mono _ _ _)
   | (with_reducible exact cmap_put.mono _ _ _)
   | (with_reducible exact LeO.refl _)
   | (with_reducible exact LeO.none _)
   | (with_reducible refine LeO.ite ?_ ?_)
   | (with_reducible refine LeO.bind ?_ (fun _ => ?_))
   | exact ih0 _ _ _ _
   | exact ih1 _ _
   | exact ih2 _ _ _ _
   | exact ih3 _ _ _ _ _ _
   | exact ih4 _ _ _ _ _ _
   | exact ih5 _ _ _ _ _
   | exact cmap_Good.mono _ _ _
   | exact cmap_long.mono _ _ _
   | exact cmap_put.mono _ _ _
   | exact LeO.none _
   | refine LeO.ite ?_ ?_
   | refine LeO.bind ?_ (fun _ => ?_)
theorem cmap_Build.mono : ∀ a0 a1 k, LeO (cmap_Build.f k a0 a1) (cmap_Build.f (k + 1) a0 a1) := by
 intro a0 a1 k
 obtain ⟨ih0, ih1, ih2, ih3, ih4, ih5⟩ := cmap_Build.mono_l k
 unfold cmap_Build.f
 repeat' first
   | (with_reducible exact ih0 _ _ _ _)
   | (with_reducible exact ih1 _ _)
   | (with_reducible exact ih2 _ _ _ _)
   | (with_reducible exact ih3 _ _ _ _ _ _)
   | (with_reducible exact ih4 _ _ _ _ _ _)
   | (with_reducible exact ih5 _ _ _ _ _)
   | (with_reducible exact cmap_Good.mono _ _ _)
   | (with_reducible exact cmap_long.mono _ _ _)
   | (with_reducible exact cmap_put.mono _ _ _)
   | (with_reducible exact LeO.refl _)
   | (with_reducible exact LeO.none _)
   | (with_reducible refine LeO.ite ?_ ?_)
   | (with_reducible refine LeO.bind ?_ (fun _ => ?_))
   | exact ih0 _ _ _ _
   | exact ih1 _ _
   | exact ih2 _ _ _ _
   | exact ih3 _ _ _ _ _ _
   | exact ih4 _ _ _ _ _ _
   | exact ih5 _ _ _ _ _
   | exact cmap_Good.mono _ _ _
   | exact cmap_long.mono _ _ _
   | exact cmap_put.mono _ _ _
   | exact LeO.none _
   | refine LeO.ite ?_ ?_
   | refine LeO.bind ?_ (fun _ => ?_)
set_option maxHeartbeats 8000000 in
set_option maxRecDepth 100000 in
theorem cmap_Build.calls (k : Nat) (A0 : Option Addr) (c0 : Nat) (l0 : List (S47)) (a1 : Bool) (r1 : ByteArray) (r2 : Int) (w : World) (hr0 : Kd.C k47 w A0 l0.length l0) (hc0 : l0.length ≤ c0) (h : cmap_Build.f k l0 a1 = some (r1, r2)) :
  Calls Try.prog 16 #[.slice A0 l0.length c0, .bool a1] w fun e w' => e = .returned (.tuple #[.string r1, .int .i64 r2]) ∧ Below w.heap.size w w' := by
 have hu47 := Try.underlying47
 have HR0 := Aside0.mk hr0
 have HC0 := Aside0.mk hc0
 clear hr0 hc0
 have HB := Aside0.mk (Below.refl w.heap.size w)
 have H : ((cmap_Good.f k l0 4096).bind fun t133 => (if t133 = true then (if a1 = true then ((cmap_put.f k ([] : List Int) (([0, 1, 3, 10] : List Int))).bind fun t137 => ((cmap_long.f k t137 (([12] : List Int))).bind fun t143 => ((cmap_long.f k t143 (([786432, wrap64 (16 + (wrap64 (12 * (l0.length : Int)))), 0, (l0.length : Int)] : List Int))).bind fun t149 => (cmap_Build.l0 k t149 l0 (l0.length : Int) 0)))) else (if (l0.length : Int) > 4095 then (cmap_Build.j1 k l0 true) else (if (l0.length : Int) > 0 then (if 0 ≤ (wrap64 ((l0.length : Int) - 1)) then (if (wrap64 ((l0.length : Int) - 1)) < (l0.length : Int) then (cmap_Build.j1 k l0 (decide (((rd_T47 l0 (wrap64 ((l0.length : Int) - 1))).f1) > 65534))) else (none)) else (none)) else (cmap_Build.j1 k l0 false)))) else (some ((⟨#[]⟩ : ByteArray), 110)))) = some (r1, r2) := h
 clear h
 replace H := Option.bind_eq_some_iff.mp H
 obtain ⟨t133, A30, H⟩ := H
 (try dsimp only at H)
 have A3 := Aside0.mk A30
 clear A30
 by_cases c4 : t133 = true
 ·subst c4
  have H1 : (if a1 = true then ((cmap_put.f k ([] : List Int) (([0, 1, 3, 10] : List Int))).bind fun t137 => ((cmap_long.f k t137 (([12] : List Int))).bind fun t143 => ((cmap_long.f k t143 (([786432, wrap64 (16 + (wrap64 (12 * (l0.length : Int)))), 0, (l0.length : Int)] : List Int))).bind fun t149 => (cmap_Build.l0 k t149 l0 (l0.length : Int) 0)))) else (if (l0.length : Int) > 4095 then (cmap_Build.j1 k l0 true) else (if (l0.length : Int) > 0 then (if 0 ≤ (wrap64 ((l0.length : Int) - 1)) then (if (wrap64 ((l0.length : Int) - 1)) < (l0.length : Int) then (cmap_Build.j1 k l0 (decide (((rd_T47 l0 (wrap64 ((l0.length : Int) - 1))).f1) > 65534))) else (none)) else (none)) else (cmap_Build.j1 k l0 false)))) = some (r1, r2) := by rw [if_pos rfl] at H; exact H
  clear H
  have H := H1
  clear H1
  by_cases c5 : a1 = true
  ·subst c5
   have H1 : ((cmap_put.f k ([] : List Int) (([0, 1, 3, 10] : List Int))).bind fun t137 => ((cmap_long.f k t137 (([12] : List Int))).bind fun t143 => ((cmap_long.f k t143 (([786432, wrap64 (16 + (wrap64 (12 * (l0.length : Int)))), 0, (l0.length : Int)] : List Int))).bind fun t149 => (cmap_Build.l0 k t149 l0 (l0.length : Int) 0)))) = some (r1, r2) := by rw [if_pos rfl] at H; exact H
   clear H
   have H := H1
   clear H1
   obtain ⟨y134, hy134⟩ : ∃ y_ : List Int, y_ = (([0, 1, 3, 10] : List Int)) := ⟨_, rfl⟩
   replace H : ((cmap_put.f k ([] : List Int) y134).bind fun t137 => ((cmap_long.f k t137 (([12] : List Int))).bind fun t143 => ((cmap_long.f k t143 (([786432, wrap64 (16 + (wrap64 (12 * (l0.length : Int)))), 0, (l0.length : Int)] : List Int))).bind fun t149 => (cmap_Build.l0 k t149 l0 (l0.length : Int) 0)))) = some (r1, r2) := by first | (rw [hy134]; with_reducible exact H) | (have H2_ := (Option.bind_some _ _).symm.trans H; rw [hy134]; with_reducible exact H2_) | (have H2_ := (Option.bind_some _ _).symm.trans H; with_reducible exact H2_) | with_reducible exact H | (rw [hy134]; exact H) | exact H
   have Ny134 := Aside0.mk hy134
   clear hy134
   replace H := Option.bind_eq_some_iff.mp H
   obtain ⟨t137, A60, H⟩ := H
   (try dsimp only at H)
   have A6 := Aside0.mk A60
   clear A60
   obtain ⟨y140, hy140⟩ : ∃ y_ : List Int, y_ = (([12] : List Int)) := ⟨_, rfl⟩
   replace H : ((cmap_long.f k t137 y140).bind fun t143 => ((cmap_long.f k t143 (([786432, wrap64 (16 + (wrap64 (12 * (l0.length : Int)))), 0, (l0.length : Int)] : List Int))).bind fun t149 => (cmap_Build.l0 k t149 l0 (l0.length : Int) 0))) = some (r1, r2) := by first | (rw [hy140]; with_reducible exact H) | (have H2_ := (Option.bind_some _ _).symm.trans H; rw [hy140]; with_reducible exact H2_) | (have H2_ := (Option.bind_some _ _).symm.trans H; with_reducible exact H2_) | with_reducible exact H | (rw [hy140]; exact H) | exact H
   have Ny140 := Aside0.mk hy140
   clear hy140
   replace H := Option.bind_eq_some_iff.mp H
   obtain ⟨t143, A70, H⟩ := H
   (try dsimp only at H)
   have A7 := Aside0.mk A70
   clear A70
   obtain ⟨y146, hy146⟩ : ∃ y_ : List Int, y_ = (([786432, wrap64 (16 + (wrap64 (12 * (l0.length : Int)))), 0, (l0.length : Int)] : List Int)) := ⟨_, rfl⟩
   replace H : ((cmap_long.f k t143 y146).bind fun t149 => (cmap_Build.l0 k t149 l0 (l0.length : Int) 0)) = some (r1, r2) := by first | (rw [hy146]; with_reducible exact H) | (have H2_ := (Option.bind_some _ _).symm.trans H; rw [hy146]; with_reducible exact H2_) | (have H2_ := (Option.bind_some _ _).symm.trans H; with_reducible exact H2_) | with_reducible exact H | (rw [hy146]; exact H) | exact H
   have Ny146 := Aside0.mk hy146
   clear hy146
   replace H := Option.bind_eq_some_iff.mp H
   obtain ⟨t149, A80, H⟩ := H
   (try dsimp only at H)
   have A8 := Aside0.mk A80
   clear A80
   have H' := Aside0.mk H
   clear H
   go_enter Try.func16, Try.ntmps16
   go_wp2_with (first | ((with_reducible refine gate_callee (f := 14) rfl ?_); refine goesL_ (some 21) rfl rfl Try.func14 (by kernel_rfl) rfl #[.slice A0 l0.length c0, .int .i64 4096] rfl (by (try simp only [List.map_toArray, List.map_cons, List.map_nil]); first | done | rfl | (simp only [List.length_drop, List.length_take]; rfl)) ?_; (with_reducible refine (cmap_Good.calls k _ _ l0 4096 true _ ?side1 ?side2 A3.out).mono ?_); (case side1 => repeat (first | exact HR0.out | (with_reducible refine Kd.C_alloc ?_ _) | (with_reducible refine Kd.C_drewN ?_ _) | (with_reducible refine Kd.C_drew ?_))); (case side2 => exact HC0.out); rintro e w9 ⟨rfl, hb⟩; refine ⟨_, rfl, ?_⟩; have n0_ := Aside0.mk (below_step (by repeat (first | (with_reducible first | exact HB.out | apply below_alloc | apply pw_below_drewN | apply below_drew1) | exact HB.out)) hb); clear HB; have HB := n0_; clear n0_; (try clear hb)) | ((with_reducible refine gate_dst (N := 24) rfl ?_); (try (refine gate_guard (by rfl) ?_; dsimp only)); refine Kd.R_lit (Kd.int .i64) _ 3 ?hg (N := 24) ?hd (xs := ([0, 1, 3, 10] : List Int)) (inner := [.int .i64 0, .int .i64 1, .int .i64 3, .int .i64 10]) (ok := fun _ => True) (okp := fun _ => True) ?hr ?hp (fun _ hk => hk) trivial (Below.refl _ _) (Nat.le_refl _) (by simp) ?_; (case hd => rfl); (case hg => rfl); (case hr => first | (go_simp; done) | (go_simp; rfl)); (case hp => exact (Reps.one (show Kd.M (Kd.int .i64) _ _ _ 0 [.int .i64 0] from rfl) (Reps.one (show Kd.M (Kd.int .i64) _ _ _ 1 [.int .i64 1] from rfl) (Reps.one (show Kd.M (Kd.int .i64) _ _ _ 3 [.int .i64 3] from rfl) (Reps.one (show Kd.M (Kd.int .i64) _ _ _ 10 [.int .i64 10] from rfl) (Reps.none _ _)))))); intro v135 w10 ho11 hb hg_ hnew_; clear hg_ hnew_; (first | rw [← Ny134.out] at ho11 | (simp only [Int.reduceToNat] at ho11; rw [← Ny134.out] at ho11)); have n0_ := Aside0.mk (Kd.R_lower ho11 (below_size (by repeat (first | (with_reducible first | exact HB.out | apply below_alloc | apply pw_below_drewN | apply below_drew1) | exact HB.out)))); have n1_ := Aside0.mk (below_step (by repeat (first | (with_reducible first | exact HB.out | apply below_alloc | apply pw_below_drewN | apply below_drew1) | exact HB.out)) hb); clear HB; have HO136 := n0_; have HB := n1_; clear n0_ n1_; clear hb ho11; obtain ⟨Ao12, co12, eo12⟩ := Kd.R_slice HO136.out; subst eo12) | ((with_reducible refine gate_callee (f := 29) rfl ?_); refine goesL_ (some 25) rfl rfl Try.func29 (by kernel_rfl) rfl #[.slice none 0 0, .slice Ao12 y134.length co12] rfl (by (try simp only [List.map_toArray, List.map_cons, List.map_nil]); first | done | rfl | (simp only [List.length_drop, List.length_take]; rfl)) ?_; (refine (cmap_put.calls k (fun k_ => some k_ = (.slice none 0 0 : Value).ownBlock) (.slice none 0 0) ([] : List Int) _ _ y134 t137 w _ ?side1 ?side2 ?side3 ?side4 A6.out).mono ?_); (case side1 => repeat (first | (with_reducible first | exact HB.out | apply below_alloc | apply pw_below_drewN | apply below_drew1) | exact HB.out)); (case side2 => exact Kd.R_nil _ _ _ _ _); (case side3 => exact Kd.C_kept_own (HO136.out) (fun k_ hk_ hs_ => (fun e_ => by simp [Value.ownBlock] at e_) hs_)); (case side4 => exact (Kd.R_reads' HO136.out).2.1); rintro e w13 ⟨v138, rfl, ho0, hb, hkp⟩; refine ⟨_, rfl, ?_⟩; have n0_ := Aside0.mk (Kd.R_mono (ok' := fun k_ => True) (Kd.R_keptB (HO136.out) hkp (fun k_ hk_ hs_ => (fun e_ => by simp [Value.ownBlock] at e_) hs_)) (fun k_ hk_ => trivial)); have n1_ := Aside0.mk (Kd.R_mono (ok' := fun k_ => True) ho0 (fun k_ hk_ => trivial)); have n2_ := Aside0.mk (hb); clear HO136; clear HB; have HO136 := n0_; have HO139 := n1_; have HB := n2_; clear n0_ n1_ n2_; (try clear hb); (try clear hkp); (try clear ho0)) | ((with_reducible refine gate_dst (N := 26) rfl ?_); (try (refine gate_guard (by rfl) ?_; dsimp only)); refine Kd.R_lit (Kd.int .i64) _ 3 ?hg (N := 26) ?hd (xs := ([12] : List Int)) (inner := [.int .i64 12]) (ok := fun _ => True) (okp := fun _ => True) ?hr ?hp (fun _ hk => hk) trivial (Below.refl _ _) (Nat.le_refl _) (by simp) ?_; (case hd => rfl); (case hg => rfl); (case hr => first | (go_simp; done) | (go_simp; rfl)); (case hp => exact (Reps.one (show Kd.M (Kd.int .i64) _ _ _ 12 [.int .i64 12] from rfl) (Reps.none _ _))); intro v141 w14 ho15 hb hg_ hnew_; clear hg_ hnew_; (first | rw [← Ny140.out] at ho15 | (simp only [Int.reduceToNat] at ho15; rw [← Ny140.out] at ho15)); have n0_ := Aside0.mk (Kd.R_elder' (by (with_reducible repeat (first | apply Kd.R_alloc | apply Kd.R_drewN | apply Kd.R_drew)); exact HO136.out) (Kd.R_base ho15) hb); have n1_ := Aside0.mk (Kd.R_below (by (with_reducible repeat (first | apply Kd.R_alloc | apply Kd.R_drewN | apply Kd.R_drew)); exact HO139.out) hb); have n2_ := Aside0.mk (Kd.R_lower (Kd.R_new' ho15 (Kd.R_lt (by (with_reducible repeat (first | apply Kd.R_alloc | apply Kd.R_drewN | apply Kd.R_drew)); exact HO136.out))) (below_size (by repeat (first | (with_reducible first | exact HB.out | apply below_alloc | apply pw_below_drewN | apply below_drew1) | exact HB.out)))); have n3_ := Aside0.mk (below_step (by repeat (first | (with_reducible first | exact HB.out | apply below_alloc | apply pw_below_drewN | apply below_drew1) | exact HB.out)) hb); clear HO136; clear HO139; clear HB; have HO136 := n0_; have HO139 := n1_; have HO142 := n2_; have HB := n3_; clear n0_ n1_ n2_ n3_; clear hb ho15; obtain ⟨Ao16, co16, eo16⟩ := Kd.R_slice HO139.out; subst eo16; obtain ⟨Ao17, co17, eo17⟩ := Kd.R_slice HO142.out; subst eo17) | ((with_reducible refine gate_callee (f := 28) rfl ?_); refine goesL_ (some 27) rfl rfl Try.func28 (by kernel_rfl) rfl #[.slice Ao16 t137.length co16, .slice Ao17 y140.length co17] rfl (by (try simp only [List.map_toArray, List.map_cons, List.map_nil]); first | done | rfl | (simp only [List.length_drop, List.length_take]; rfl)) ?_; (with_reducible refine (cmap_long.calls k (fun k_ => some k_ = (.slice Ao16 t137.length co16 : Value).ownBlock) (.slice Ao16 t137.length co16) t137 _ _ y140 t143 w _ ?side1 ?side2 ?side3 ?side4 A7.out).mono ?_); (case side1 => repeat (first | (with_reducible first | exact HB.out | apply below_alloc | apply pw_below_drewN | apply below_drew1) | exact HB.out)); (case side2 => exact Kd.R_tight rfl HO139.out); (case side3 => exact Kd.C_kept_own ((Kd.R_apart' HO142.out (Kd.R_typed HO139.out) (by decide))) (fun k_ hk_ hs_ => (hk_.2) hs_)); (case side4 => exact (Kd.R_reads' HO142.out).2.1); rintro e w18 ⟨v144, rfl, ho0, hb, hkp⟩; refine ⟨_, rfl, ?_⟩; have n0_ := Aside0.mk (Kd.R_mono (ok' := fun k_ => some k_ ≠ (.slice Ao17 y140.length co17 : Value).ownBlock) (Kd.R_keptB ((Kd.R_apart' HO136.out (Kd.R_typed HO139.out) (by decide))) hkp (fun k_ hk_ hs_ => (hk_.2) hs_)) (fun k_ hk_ => hk_.1.1.2)); have n1_ := Aside0.mk (Kd.R_mono (ok' := fun k_ => some k_ ≠ (.slice Ao12 y134.length co12 : Value).ownBlock) (Kd.R_keptB ((Kd.R_apart' HO142.out (Kd.R_typed HO139.out) (by decide))) hkp (fun k_ hk_ hs_ => (hk_.2) hs_)) (fun k_ hk_ => hk_.1.1.2)); have n2_ := Aside0.mk (Kd.R_mono (ok' := fun k_ => True) ho0 (fun k_ hk_ => trivial)); have n3_ := Aside0.mk (hb); clear HO136; clear HO142; clear HB; clear HO139; have HO136 := n0_; have HO142 := n1_; have HO145 := n2_; have HB := n3_; clear n0_ n1_ n2_ n3_; (try clear hb); (try clear hkp); (try clear ho0)) | ((with_reducible refine gate_dst (N := 35) rfl ?_); (try (refine gate_guard (by rfl) ?_; dsimp only)); refine Kd.R_lit (Kd.int .i64) _ 3 ?hg (N := 35) ?hd (xs := ([786432, wrap64 (16 + (wrap64 (12 * (l0.length : Int)))), 0, (l0.length : Int)] : List Int)) (inner := [.int .i64 786432, .int .i64 (wrap64 (16 + (wrap64 (12 * (l0.length : Int))))), .int .i64 0, .int .i64 (l0.length : Int)]) (ok := fun _ => True) (okp := fun _ => True) ?hr ?hp (fun _ hk => hk) trivial (Below.refl _ _) (Nat.le_refl _) (by simp) ?_; (case hd => rfl); (case hg => rfl); (case hr => first | (go_simp; done) | (go_simp; rfl)); (case hp => exact (Reps.one (show Kd.M (Kd.int .i64) _ _ _ 786432 [.int .i64 786432] from rfl) (Reps.one (show Kd.M (Kd.int .i64) _ _ _ (wrap64 (16 + (wrap64 (12 * (l0.length : Int))))) [.int .i64 (wrap64 (16 + (wrap64 (12 * (l0.length : Int)))))] from rfl) (Reps.one (show Kd.M (Kd.int .i64) _ _ _ 0 [.int .i64 0] from rfl) (Reps.one (show Kd.M (Kd.int .i64) _ _ _ (l0.length : Int) [.int .i64 (l0.length : Int)] from rfl) (Reps.none _ _)))))); intro v147 w19 ho20 hb hg_ hnew_; clear hg_ hnew_; (first | rw [← Ny146.out] at ho20 | (simp only [Int.reduceToNat] at ho20; rw [← Ny146.out] at ho20)); have n0_ := Aside0.mk (Kd.R_elder' (by (with_reducible repeat (first | apply Kd.R_alloc | apply Kd.R_drewN | apply Kd.R_drew)); exact HO136.out) (Kd.R_base ho20) hb); have n1_ := Aside0.mk (Kd.R_elder' (by (with_reducible repeat (first | apply Kd.R_alloc | apply Kd.R_drewN | apply Kd.R_drew)); exact HO142.out) (Kd.R_base ho20) hb); have n2_ := Aside0.mk (Kd.R_below (by (with_reducible repeat (first | apply Kd.R_alloc | apply Kd.R_drewN | apply Kd.R_drew)); exact HO145.out) hb); have n3_ := Aside0.mk (Kd.R_lower (Kd.R_new' (Kd.R_new' ho20 (Kd.R_lt (by (with_reducible repeat (first | apply Kd.R_alloc | apply Kd.R_drewN | apply Kd.R_drew)); exact HO136.out))) (Kd.R_lt (by (with_reducible repeat (first | apply Kd.R_alloc | apply Kd.R_drewN | apply Kd.R_drew)); exact HO142.out))) (below_size (by repeat (first | (with_reducible first | exact HB.out | apply below_alloc | apply pw_below_drewN | apply below_drew1) | exact HB.out)))); have n4_ := Aside0.mk (below_step (by repeat (first | (with_reducible first | exact HB.out | apply below_alloc | apply pw_below_drewN | apply below_drew1) | exact HB.out)) hb); clear HO136; clear HO142; clear HO145; clear HB; have HO136 := n0_; have HO142 := n1_; have HO145 := n2_; have HO148 := n3_; have HB := n4_; clear n0_ n1_ n2_ n3_ n4_; clear hb ho20; obtain ⟨Ao21, co21, eo21⟩ := Kd.R_slice HO145.out; subst eo21; obtain ⟨Ao22, co22, eo22⟩ := Kd.R_slice HO148.out; subst eo22) | ((with_reducible refine gate_callee (f := 28) rfl ?_); refine goesL_ (some 36) rfl rfl Try.func28 (by kernel_rfl) rfl #[.slice Ao21 t143.length co21, .slice Ao22 y146.length co22] rfl (by (try simp only [List.map_toArray, List.map_cons, List.map_nil]); first | done | rfl | (simp only [List.length_drop, List.length_take]; rfl)) ?_; (with_reducible refine (cmap_long.calls k (fun k_ => some k_ = (.slice Ao21 t143.length co21 : Value).ownBlock) (.slice Ao21 t143.length co21) t143 _ _ y146 t149 w _ ?side1 ?side2 ?side3 ?side4 A8.out).mono ?_); (case side1 => repeat (first | (with_reducible first | exact HB.out | apply below_alloc | apply pw_below_drewN | apply below_drew1) | exact HB.out)); (case side2 => exact Kd.R_tight rfl HO145.out); (case side3 => exact Kd.C_kept_own ((Kd.R_apart' HO148.out (Kd.R_typed HO145.out) (by decide))) (fun k_ hk_ hs_ => (hk_.2) hs_)); (case side4 => exact (Kd.R_reads' HO148.out).2.1); rintro e w23 ⟨v150, rfl, ho0, hb, hkp⟩; refine ⟨_, rfl, ?_⟩; have n0_ := Aside0.mk (Kd.R_mono (ok' := fun k_ => some k_ ≠ (.slice Ao17 y140.length co17 : Value).ownBlock ∧ some k_ ≠ (.slice Ao22 y146.length co22 : Value).ownBlock) (Kd.R_keptB ((Kd.R_apart' HO136.out (Kd.R_typed HO145.out) (by decide))) hkp (fun k_ hk_ hs_ => (hk_.2) hs_)) (fun k_ hk_ => ⟨hk_.1.1.1, hk_.1.1.2⟩)); have n1_ := Aside0.mk (Kd.R_mono (ok' := fun k_ => some k_ ≠ (.slice Ao12 y134.length co12 : Value).ownBlock ∧ some k_ ≠ (.slice Ao22 y146.length co22 : Value).ownBlock) (Kd.R_keptB ((Kd.R_apart' HO142.out (Kd.R_typed HO145.out) (by decide))) hkp (fun k_ hk_ hs_ => (hk_.2) hs_)) (fun k_ hk_ => ⟨hk_.1.1.1, hk_.1.1.2⟩)); have n2_ := Aside0.mk (Kd.R_mono (ok' := fun k_ => some k_ ≠ (.slice Ao12 y134.length co12 : Value).ownBlock ∧ some k_ ≠ (.slice Ao17 y140.length co17 : Value).ownBlock) (Kd.R_keptB ((Kd.R_apart' HO148.out (Kd.R_typed HO145.out) (by decide))) hkp (fun k_ hk_ hs_ => (hk_.2) hs_)) (fun k_ hk_ => ⟨hk_.1.1.1.2, hk_.1.1.2⟩)); have n3_ := Aside0.mk (Kd.R_mono (ok' := fun k_ => True) ho0 (fun k_ hk_ => trivial)); have n4_ := Aside0.mk (hb); clear HO136; clear HO142; clear HO148; clear HB; clear HO145; have HO136 := n0_; have HO142 := n1_; have HO148 := n2_; have HO151 := n3_; have HB := n4_; clear n0_ n1_ n2_ n3_ n4_; (try clear hb); (try clear hkp); (try clear ho0)))
   go_loopg [6, 39] k (fun kq v6 v39 w' => ∃ (x6_1 : List Int) (x39_1 : Int), v39 = .int .i64 x39_1 ∧ Aside0 (cmap_Build.l0 kq x6_1 l0 (l0.length : Int) x39_1 = some (r1, r2)) ∧ Aside0 (kq ≤ k) ∧ Aside0 (Kd.R (Kd.int .u8) 5 w' w.heap.size (fun _ => True) v6 x6_1) ∧ Aside0 (Below w.heap.size w w'))
   case atStart => exact ⟨(t149), (0), (by first | rfl | (simp; done) | (simp [*]; done)), H', ⟨Nat.le_refl _⟩, ⟨by (with_reducible repeat (first | apply Kd.R_alloc | apply Kd.R_drewN | apply Kd.R_drew)); exact HO151.out⟩, ⟨by repeat (first | (with_reducible first | exact HB.out | apply below_alloc | apply pw_below_drewN | apply below_drew1) | exact HB.out)⟩⟩
   case round =>
    clear H'
    try clear c1
    try clear c2
    try clear p2
    try clear c4
    try clear c5
    try clear p6
    try clear c14
    try clear c16
    obtain ⟨x6_1, x39_1, rfl, HA, HK1, HO_6, HB⟩ := hrel
    cases gk with
    | zero => exact absurd HA.out (by simp [cmap_Build.l0])
    | succ k1 =>
     have H := HA.out
     clear HA
     simp only [cmap_Build.l0] at H
     by_cases c24 : x39_1 < (l0.length : Int)
     ·rw [if_pos c24] at H
      have c24b0 : decide (x39_1 < (l0.length : Int)) = true := decide_eq_true c24
      clear c24
      by_cases c25 : 0 ≤ x39_1
      ·rw [if_pos c25] at H
       have c25b0 : decide (0 ≤ x39_1) = true := decide_eq_true c25
       clear c25
       by_cases c26 : x39_1 < (l0.length : Int)
       ·rw [if_pos c26] at H
        have c26b0 : decide (x39_1 < (l0.length : Int)) = true := decide_eq_true c26
        clear c26
        obtain ⟨y154, hy154⟩ : ∃ y_ : List Int, y_ = (([(rd_T47 l0 x39_1).f0, (rd_T47 l0 x39_1).f1, (rd_T47 l0 x39_1).f2] : List Int)) := ⟨_, rfl⟩
        replace H : ((cmap_long.f k1 x6_1 y154).bind fun t157 => (cmap_Build.l0 k1 t157 l0 (l0.length : Int) (wrap64 (x39_1 + 1)))) = some (r1, r2) := by first | (rw [hy154]; with_reducible exact H) | (have H2_ := (Option.bind_some _ _).symm.trans H; rw [hy154]; with_reducible exact H2_) | (have H2_ := (Option.bind_some _ _).symm.trans H; with_reducible exact H2_) | with_reducible exact H | (rw [hy154]; exact H) | exact H
        have Ny154 := Aside0.mk hy154
        clear hy154
        replace H := Option.bind_eq_some_iff.mp H
        obtain ⟨t157, A270, H⟩ := H
        (try dsimp only at H)
        have A27 := Aside0.mk A270
        clear A270
        have H' := Aside0.mk H
        clear H
        have p152 : 0 ≤ (x39_1 : Int) := of_decide_eq_true (by first | (with_reducible assumption) | assumption)
        have q152 : x39_1 < (l0.length : Int) := of_decide_eq_true (by first | (with_reducible assumption) | assumption)
        obtain ⟨ad152, e152, hx152_0, hx152_1, hx152_2⟩ := at_T47 HR0.out x39_1 p152 q152
        cases e152
        replace hx152_0 := (HB.out.cell (World.block_lt_of_cell? w _ hx152_0)).trans hx152_0
        replace hx152_1 := (HB.out.cell (World.block_lt_of_cell? w _ hx152_1)).trans hx152_1
        replace hx152_2 := (HB.out.cell (World.block_lt_of_cell? w _ hx152_2)).trans hx152_2
        replace p152 := eq_true p152
        replace q152 := eq_true q152
        go_wp2_with (first | ((with_reducible refine gate_dst (N := 8) rfl ?_); (try (refine gate_guard (by rfl) ?_; dsimp only)); refine box_event ?hg (N := 8) ?hd (cs := #[.int .i64 0, .int .i64 0, .int .i64 0]) (t := 47) ?hr ?_; (case hd => rfl); (case hg => rfl); (case hr => first | (go_simp; done) | (go_simp; rfl)); intro gb153 hg w28 hbox hb; have n0_ := Aside0.mk (Kd.R_below (by (with_reducible repeat (first | apply Kd.R_alloc | apply Kd.R_drewN | apply Kd.R_drew)); exact HO_6.out) hb); have n1_ := Aside0.mk (below_step (by repeat (first | (with_reducible first | exact HB.out | apply below_alloc | apply pw_below_drewN | apply below_drew1) | exact HB.out)) hb); have n2_ := Aside0.mk (hbox); have n3_ := Aside0.mk ((by rw [hg]; exact (below_size (by repeat (first | (with_reducible first | exact HB.out | apply below_alloc | apply pw_below_drewN | apply below_drew1) | exact HB.out))) : w.heap.size ≤ gb153)); have n4_ := Aside0.mk ((by rw [hg]; exact (below_size (by repeat (first | (with_reducible first | exact HB.out | apply below_alloc | apply pw_below_drewN | apply below_drew1) | exact HB.out))) : w.heap.size ≤ gb153)); clear HO_6; clear HB; have HO_6 := n0_; have HB := n1_; have BK153 := n2_; have GW153 := n3_; have GE153 := n4_; clear n0_ n1_ n2_ n3_ n4_; clear hb hbox hg; have hcz29_0 : w28.cell? ⟨gb153, 0, none⟩ = some (.int .i64 0) := (blk_cell BK153.out 0).trans rfl; have hcz29_1 : w28.cell? ⟨gb153, 1, none⟩ = some (.int .i64 0) := (blk_cell BK153.out 1).trans rfl; have hcz29_2 : w28.cell? ⟨gb153, 2, none⟩ = some (.int .i64 0) := (blk_cell BK153.out 2).trans rfl; have hfz29_0 := blk_frozen BK153.out 0; have hfz29_1 := blk_frozen BK153.out 1; have hfz29_2 := blk_frozen BK153.out 2) | ((with_reducible refine gate_dst (N := 50) rfl ?_); (try (refine gate_guard (by rfl) ?_; dsimp only)); refine Kd.R_lit (Kd.int .i64) _ 3 ?hg (N := 50) ?hd (xs := ([(rd_T47 l0 x39_1).f0, (rd_T47 l0 x39_1).f1, (rd_T47 l0 x39_1).f2] : List Int)) (inner := [.int .i64 ((rd_T47 l0 x39_1).f0), .int .i64 ((rd_T47 l0 x39_1).f1), .int .i64 ((rd_T47 l0 x39_1).f2)]) (ok := fun _ => True) (okp := fun _ => True) ?hr ?hp (fun _ hk => hk) trivial (Below.refl _ _) (Nat.le_refl _) (by simp) ?_; (case hd => rfl); (case hg => rfl); (case hr => first | (go_simp; done) | (go_simp; rfl)); (case hp => exact (Reps.one (show Kd.M (Kd.int .i64) _ _ _ ((rd_T47 l0 x39_1).f0) [.int .i64 ((rd_T47 l0 x39_1).f0)] from rfl) (Reps.one (show Kd.M (Kd.int .i64) _ _ _ ((rd_T47 l0 x39_1).f1) [.int .i64 ((rd_T47 l0 x39_1).f1)] from rfl) (Reps.one (show Kd.M (Kd.int .i64) _ _ _ ((rd_T47 l0 x39_1).f2) [.int .i64 ((rd_T47 l0 x39_1).f2)] from rfl) (Reps.none _ _))))); intro v155 w30 ho31 hb hg_ hnew_; clear hg_ hnew_; (first | rw [← Ny154.out] at ho31 | (simp only [Int.reduceToNat] at ho31; rw [← Ny154.out] at ho31)); have n0_ := Aside0.mk (Kd.R_below (by (with_reducible repeat (first | apply Kd.R_alloc | apply Kd.R_drewN | apply Kd.R_drew)); exact (Kd.R_mono (Kd.R_far (p := ⟨gb153, 2, none⟩) (Kd.R_far (p := ⟨gb153, 1, none⟩) (Kd.R_far (p := ⟨gb153, 0, none⟩) (Kd.R_types HO_6.out BK153.out (by decide)) (fun _ hk => hk.2) (.int .i64 ((rd_T47 l0 x39_1).f0))) (fun _ hk => hk.2) (.int .i64 ((rd_T47 l0 x39_1).f1))) (fun _ hk => hk.2) (.int .i64 ((rd_T47 l0 x39_1).f2))) (fun _ h_ => h_.1))) hb); have n1_ := Aside0.mk (Kd.R_lower ho31 (below_size (by repeat (first | (with_reducible first | exact HB.out | apply below_alloc | apply pw_below_drewN | apply below_drew1 | refine below_set ?_ GE153.out) | exact HB.out)))); have n2_ := Aside0.mk (blk_below (g := gb153) (o := .cells #[.int .i64 ((rd_T47 l0 x39_1).f0), .int .i64 ((rd_T47 l0 x39_1).f1), .int .i64 ((rd_T47 l0 x39_1).f2)] 47 (0, 0)) (by (with_reducible repeat (first | refine blk_drewN ?_ _ | refine blk_drew ?_ | refine blk_alloc ?_ _)); refine blk_put (cs := #[.int .i64 ((rd_T47 l0 x39_1).f0), .int .i64 ((rd_T47 l0 x39_1).f1), .int .i64 0]) ?_ 2 _ rfl; (with_reducible repeat (first | refine blk_drewN ?_ _ | refine blk_drew ?_ | refine blk_alloc ?_ _)); refine blk_put (cs := #[.int .i64 ((rd_T47 l0 x39_1).f0), .int .i64 0, .int .i64 0]) ?_ 1 _ rfl; (with_reducible repeat (first | refine blk_drewN ?_ _ | refine blk_drew ?_ | refine blk_alloc ?_ _)); refine blk_put (cs := #[.int .i64 0, .int .i64 0, .int .i64 0]) ?_ 0 _ rfl; (with_reducible repeat (first | refine blk_drewN ?_ _ | refine blk_drew ?_ | refine blk_alloc ?_ _)); exact BK153.out) hb); have n3_ := Aside0.mk (below_step (by repeat (first | (with_reducible first | exact HB.out | apply below_alloc | apply pw_below_drewN | apply below_drew1 | refine below_set ?_ GE153.out) | exact HB.out)) hb); clear HO_6; clear BK153; clear HB; have HO_6 := n0_; have HO156 := n1_; have BK153 := n2_; have HB := n3_; clear n0_ n1_ n2_ n3_; clear hb ho31; obtain ⟨Ao32, co32, eo32⟩ := Kd.R_slice HO_6.out; subst eo32; obtain ⟨Ao33, co33, eo33⟩ := Kd.R_slice HO156.out; subst eo33) | ((with_reducible refine gate_callee (f := 28) rfl ?_); refine goesL_ (some 51) rfl rfl Try.func28 (by kernel_rfl) rfl #[.slice Ao32 x6_1.length co32, .slice Ao33 y154.length co33] rfl (by (try simp only [List.map_toArray, List.map_cons, List.map_nil]); first | done | rfl | (simp only [List.length_drop, List.length_take]; rfl)) ?_; (with_reducible refine (cmap_long.calls k1 (fun k_ => some k_ = (.slice Ao32 x6_1.length co32 : Value).ownBlock) (.slice Ao32 x6_1.length co32) x6_1 _ _ y154 t157 w _ ?side1 ?side2 ?side3 ?side4 A27.out).mono ?_); (case side1 => repeat (first | (with_reducible first | exact HB.out | apply below_alloc | apply pw_below_drewN | apply below_drew1 | refine below_set ?_ GE153.out) | exact HB.out)); (case side2 => exact Kd.R_tight rfl HO_6.out); (case side3 => exact Kd.C_kept_own ((Kd.R_apart' HO156.out (Kd.R_typed HO_6.out) (by decide))) (fun k_ hk_ hs_ => (hk_.2) hs_)); (case side4 => exact (Kd.R_reads' HO156.out).2.1); rintro e w34 ⟨v158, rfl, ho0, hb, hkp⟩; refine ⟨_, rfl, ?_⟩; have n0_ := Aside0.mk (blk_kept (by (with_reducible repeat (first | refine blk_drewN ?_ _ | refine blk_drew ?_ | refine blk_alloc ?_ _)); exact BK153.out) hkp (fun hs_ => (fun e_ => (Kd.R_ne HO_6.out BK153.out (by decide)) e_) hs_)); have n1_ := Aside0.mk (Kd.R_mono (ok' := fun k_ => True) (Kd.R_keptB ((Kd.R_apart' HO156.out (Kd.R_typed HO_6.out) (by decide))) hkp (fun k_ hk_ hs_ => (hk_.2) hs_)) (fun k_ hk_ => trivial)); have n2_ := Aside0.mk (Kd.R_mono (ok' := fun k_ => True) ho0 (fun k_ hk_ => trivial)); have n3_ := Aside0.mk (hb); clear BK153; clear HO156; clear HB; clear HO_6; have BK153 := n0_; have HO156 := n1_; have HO159 := n2_; have HB := n3_; clear n0_ n1_ n2_ n3_; (try clear hb); (try clear hkp); (try clear ho0)))
        go_roundg k1
        case measure => have := HK1.out; omega
        case rel => exact ⟨(t157), (wrap64 (x39_1 + 1)), (by first | rfl | (simp; done) | (simp [*]; done)), H', ⟨by have := HK1.out; omega⟩, ⟨by (with_reducible repeat (first | apply Kd.R_alloc | apply Kd.R_drewN | apply Kd.R_drew)); exact HO159.out⟩, ⟨by repeat (first | (with_reducible first | exact HB.out | apply below_alloc | apply pw_below_drewN | apply below_drew1 | refine below_set ?_ GE153.out) | exact HB.out)⟩⟩
       ·rw [if_neg c26] at H
        exact absurd H (by simp)
      ·rw [if_neg c25] at H
       exact absurd H (by simp)
     ·rw [if_neg c24] at H
      have c24b0 : decide (x39_1 < (l0.length : Int)) = false := decide_eq_false c24
      clear c24
      simp only [Option.some.injEq, Prod.mk.injEq] at H
      obtain ⟨rfl, rfl⟩ := H
      have hcv35 := own_string (P := Try.prog) Try.underlying43 Try.underlying5 Try.underlying9 (Kd.own_of_R HO_6.out)
      go_wp2
      go_ret2
      exact ⟨by first | rfl | (simp [errW_none, errW_some] <;> rfl) | (simp [*, errW_none, errW_some] <;> rfl) | (((first | rw [pw_wdiv _ _ (by omega) (by omega)] | rw [pw_wdiv' _ _ (by omega) (by omega)] | rw [Go.IntWalk.wrap64_in _ (by omega)]); repeat (first | rw [pw_wdiv _ _ (by omega) (by omega)] | rw [pw_wdiv' _ _ (by omega) (by omega)] | rw [Go.IntWalk.wrap64_in _ (by omega)])); rfl), by repeat (first | (with_reducible first | exact HB.out | apply below_alloc | apply pw_below_drewN | apply below_drew1) | exact HB.out)⟩
  ·replace c5 := Bool.eq_false_iff.mpr c5
   subst c5
   have H1 : (if (l0.length : Int) > 4095 then (cmap_Build.j1 k l0 true) else (if (l0.length : Int) > 0 then (if 0 ≤ (wrap64 ((l0.length : Int) - 1)) then (if (wrap64 ((l0.length : Int) - 1)) < (l0.length : Int) then (cmap_Build.j1 k l0 (decide (((rd_T47 l0 (wrap64 ((l0.length : Int) - 1))).f1) > 65534))) else (none)) else (none)) else (cmap_Build.j1 k l0 false))) = some (r1, r2) := by rw [if_neg (show ¬ (false = true) by decide)] at H; exact H
   clear H
   have H := H1
   clear H1
   have HC36 := Aside0.mk H
   clear H
   go_enter Try.func16, Try.ntmps16
   go_upto_region 12 with (first | ((with_reducible refine gate_callee (f := 14) rfl ?_); refine goesL_ (some 21) rfl rfl Try.func14 (by kernel_rfl) rfl #[.slice A0 l0.length c0, .int .i64 4096] rfl (by (try simp only [List.map_toArray, List.map_cons, List.map_nil]); first | done | rfl | (simp only [List.length_drop, List.length_take]; rfl)) ?_; (with_reducible refine (cmap_Good.calls k _ _ l0 4096 true _ ?side1 ?side2 A3.out).mono ?_); (case side1 => repeat (first | exact HR0.out | (with_reducible refine Kd.C_alloc ?_ _) | (with_reducible refine Kd.C_drewN ?_ _) | (with_reducible refine Kd.C_drew ?_))); (case side2 => exact HC0.out); rintro e w37 ⟨rfl, hb⟩; refine ⟨_, rfl, ?_⟩; have n0_ := Aside0.mk (below_step (by repeat (first | (with_reducible first | exact HB.out | apply below_alloc | apply pw_below_drewN | apply below_drew1) | exact HB.out)) hb); clear HB; have HB := n0_; clear n0_; (try clear hb)))
   (try simp only [Act.put, List.setIfInBounds_toArray, List.set_cons_zero, List.set_cons_succ])
   go_cut [72] (fun v72 wc => ∃ (kq : Nat) (x72_35 : Bool), v72 = .bool x72_35 ∧ Aside0 (cmap_Build.j1 kq l0 x72_35 = some (r1, r2)) ∧ Aside0 (kq ≤ k) ∧ Aside0 (Below w.heap.size w wc))
   case first =>
    have H := HC36.out
    clear HC36
    by_cases c38 : (l0.length : Int) > 4095
    ·rw [if_pos c38] at H
     have c38b0 : decide (4095 < (l0.length : Int)) = true := decide_eq_true c38
     have c38b1 : decide (4095 < l0.length) = true := decide_eq_true (by omega)
     clear c38
     (first | rw [c38b0] | (simp only [i64_w, i32_w]; rw [c38b0]) | skip)
     have H' := Aside0.mk H
     clear H
     go_wp2
     go_meet
     case rel => exact ⟨_, (true), (by first | rfl | (simp; done) | (simp [*]; done)), H', ⟨by first | omega | exact Nat.le_refl _⟩, ⟨by repeat (first | (with_reducible first | exact HB.out | apply below_alloc | apply pw_below_drewN | apply below_drew1) | exact HB.out)⟩⟩
    ·rw [if_neg c38] at H
     have c38b0 : decide (4095 < (l0.length : Int)) = false := decide_eq_false c38
     have c38b1 : decide (4095 < l0.length) = false := decide_eq_false (by omega)
     clear c38
     (first | rw [c38b0] | (simp only [i64_w, i32_w]; rw [c38b0]) | skip)
     by_cases c39 : (l0.length : Int) > 0
     ·rw [if_pos c39] at H
      have c39b0 : decide (0 < (l0.length : Int)) = true := decide_eq_true c39
      have c39b1 : decide (0 < l0.length) = true := decide_eq_true (by omega)
      clear c39
      obtain ⟨ji40, hji40⟩ : ∃ j_ : Int, (wrap64 ((l0.length : Int) - 1)) = j_ := ⟨_, rfl⟩
      replace H : (if 0 ≤ (ji40) then (if (ji40) < (l0.length : Int) then (cmap_Build.j1 k l0 (decide (((rd_T47 l0 (ji40)).f1) > 65534))) else (none)) else (none)) = some (r1, r2) := by first | (rw [hji40] at H; exact H) | (simp only [hji40] at H ⊢; exact H)
      have hji40w : (IntKind.i64.wrap ((l0.length : Int) - 1)) = ji40 := (i64_w _).trans hji40
      by_cases c41 : 0 ≤ (ji40)
      ·rw [if_pos c41] at H
       have c41b0 : decide (0 ≤ (ji40)) = true := decide_eq_true c41
       clear c41
       by_cases c42 : (ji40) < (l0.length : Int)
       ·rw [if_pos c42] at H
        have c42b0 : decide ((ji40) < (l0.length : Int)) = true := decide_eq_true c42
        clear c42
        have H' := Aside0.mk H
        clear H
        have p160 : 0 ≤ ((ji40) : Int) := of_decide_eq_true (by first | (with_reducible assumption) | assumption)
        have q160 : (ji40) < (l0.length : Int) := of_decide_eq_true (by first | (with_reducible assumption) | assumption)
        obtain ⟨ad160, e160, hx160_0, hx160_1, hx160_2⟩ := at_T47 HR0.out (ji40) p160 q160
        cases e160
        replace hx160_0 := (HB.out.cell (World.block_lt_of_cell? w _ hx160_0)).trans hx160_0
        replace hx160_1 := (HB.out.cell (World.block_lt_of_cell? w _ hx160_1)).trans hx160_1
        replace hx160_2 := (HB.out.cell (World.block_lt_of_cell? w _ hx160_2)).trans hx160_2
        replace p160 := eq_true p160
        replace q160 := eq_true q160
        go_wp2
        first | (go_meet; case rel => exact ⟨_, (decide (((rd_T47 l0 (ji40)).f1) > 65534)), (by first | rfl | (simp; done) | (simp only [← hji40] <;> (first | rfl | simp)) | (simp [*]; done)), H', ⟨by first | omega | exact Nat.le_refl _⟩, ⟨by repeat (first | (with_reducible first | exact HB.out | apply below_alloc | apply pw_below_drewN | apply below_drew1) | exact HB.out)⟩⟩) | (subst hji40; go_meet; case rel => exact ⟨_, (decide (((rd_T47 l0 (((wrap64 ((l0.length : Int) - 1))))).f1) > 65534)), (by first | rfl | (simp; done) | (simp only [← hji40] <;> (first | rfl | simp)) | (simp [*]; done)), H', ⟨by first | omega | exact Nat.le_refl _⟩, ⟨by repeat (first | (with_reducible first | exact HB.out | apply below_alloc | apply pw_below_drewN | apply below_drew1) | exact HB.out)⟩⟩)
       ·rw [if_neg c42] at H
        exact absurd H (by simp)
      ·rw [if_neg c41] at H
       exact absurd H (by simp)
     ·rw [if_neg c39] at H
      have c39b0 : decide (0 < (l0.length : Int)) = false := decide_eq_false c39
      have c39b1 : decide (0 < l0.length) = false := decide_eq_false (by omega)
      clear c39
      have H' := Aside0.mk H
      clear H
      go_wp2
      go_meet
      case rel => exact ⟨_, (false), (by first | rfl | (simp; done) | (simp [*]; done)), H', ⟨by first | omega | exact Nat.le_refl _⟩, ⟨by repeat (first | (with_reducible first | exact HB.out | apply below_alloc | apply pw_below_drewN | apply below_drew1) | exact HB.out)⟩⟩
   case rest =>
    clear HC36
    try clear c1
    try clear p1
    try clear q1
    try clear hx1
    try clear c2
    try clear p2
    try clear c3
    try clear hcv3
    try clear c4
    try clear c5
    try clear p6
    try clear c14
    try clear p15
    try clear q15
    try clear hx15
    try clear c16
    try clear p16
    try clear q16
    try clear hx16
    try clear c24
    try clear c24b0
    try clear c25
    try clear c25b0
    try clear c26
    try clear c26b0
    try clear c28
    try clear c29
    try clear hcv35
    try clear c38
    try clear c38b0
    try clear c38b1
    try clear c39
    try clear c39b0
    try clear c39b1
    try clear c41
    try clear c41b0
    try clear c42
    try clear c42b0
    try clear hcz29_0
    try clear hcz29_1
    try clear hcz29_2
    try clear hfz29_0
    try clear hfz29_1
    try clear hfz29_2
    try clear hx152_0
    try clear hx152_1
    try clear hx152_2
    try clear hx160_0
    try clear hx160_1
    try clear hx160_2
    try clear p152
    try clear p160
    try clear p2
    try clear p6
    try clear q152
    try clear q160
    obtain ⟨kq, x72_35, rfl, HA, HJ35, HB⟩ := hcut
    cases kq with
    | zero => exact absurd HA.out (by simp [cmap_Build.j1])
    | succ kj35 =>
     have H := HA.out
     clear HA
     simp only [cmap_Build.j1] at H
     by_cases c43 : x72_35 = true
     ·subst c43
      have H1 : (some ((⟨#[]⟩ : ByteArray), 110)) = some (r1, r2) := by rw [if_pos rfl] at H; exact H
      clear H
      have H := H1
      clear H1
      simp only [Option.some.injEq, Prod.mk.injEq] at H
      obtain ⟨rfl, rfl⟩ := H
      go_wp2
      go_ret2
      exact ⟨by first | rfl | (simp [errW_none, errW_some] <;> rfl) | (simp [*, errW_none, errW_some] <;> rfl) | (((first | rw [pw_wdiv _ _ (by omega) (by omega)] | rw [pw_wdiv' _ _ (by omega) (by omega)] | rw [Go.IntWalk.wrap64_in _ (by omega)]); repeat (first | rw [pw_wdiv _ _ (by omega) (by omega)] | rw [pw_wdiv' _ _ (by omega) (by omega)] | rw [Go.IntWalk.wrap64_in _ (by omega)])); rfl), by repeat (first | (with_reducible first | exact HB.out | apply below_alloc | apply pw_below_drewN | apply below_drew1) | exact HB.out)⟩
     ·replace c43 := Bool.eq_false_iff.mpr c43
      subst c43
      have H1 : (if ([] : List (S47)).length + l0.length < 5864062014805 then ((some (([] : List (S47)) ++ l0 : List (S47))).bind fun y161 => (if y161.length < 5864062014805 then ((some (y161 ++ [(⟨65535, 65535, 65536⟩ : S47)] : List (S47))).bind fun y164 => (cmap_Build.l1 kj35 y164 (y164.length : Int) 1 0)) else (none))) else (none)) = some (r1, r2) := by rw [if_neg (show ¬ (false = true) by decide)] at H; exact H
      clear H
      have H := H1
      clear H1
      by_cases c44 : ([] : List (S47)).length + l0.length < 5864062014805
      ·rw [if_pos c44] at H
       have LMc44 := Aside0.mk c44
       clear c44
       obtain ⟨y161, hy161⟩ : ∃ y_ : List (S47), y_ = (([] : List (S47)) ++ l0) := ⟨_, rfl⟩
       replace H : (if y161.length < 5864062014805 then ((some (y161 ++ [(⟨65535, 65535, 65536⟩ : S47)] : List (S47))).bind fun y164 => (cmap_Build.l1 kj35 y164 (y164.length : Int) 1 0)) else (none)) = some (r1, r2) := by first | (rw [hy161]; with_reducible exact H) | (have H2_ := (Option.bind_some _ _).symm.trans H; rw [hy161]; with_reducible exact H2_) | (have H2_ := (Option.bind_some _ _).symm.trans H; with_reducible exact H2_) | with_reducible exact H | (rw [hy161]; exact H) | exact H
       have Ny161 := Aside0.mk hy161
       clear hy161
       by_cases c45 : y161.length < 5864062014805
       ·rw [if_pos c45] at H
        have LMc45 := Aside0.mk c45
        clear c45
        obtain ⟨y164, hy164⟩ : ∃ y_ : List (S47), y_ = (y161 ++ [(⟨65535, 65535, 65536⟩ : S47)]) := ⟨_, rfl⟩
        replace H : (cmap_Build.l1 kj35 y164 (y164.length : Int) 1 0) = some (r1, r2) := by first | (rw [hy164]; with_reducible exact H) | (have H2_ := (Option.bind_some _ _).symm.trans H; rw [hy164]; with_reducible exact H2_) | (have H2_ := (Option.bind_some _ _).symm.trans H; with_reducible exact H2_) | with_reducible exact H | (rw [hy164]; exact H) | exact H
        have Ny164 := Aside0.mk hy164
        clear hy164
        have H' := Aside0.mk H
        clear H
        go_wp2_with (first | ((with_reducible refine gate_builtin (b := .append) (xs := #[.const (.slice none 0 0), .tmp 73]) rfl ?_); (try (refine gate_guard (by rfl) ?_; dsimp only)); at_builtin; refine Kd.R_append_rows k47 (w0 := w) w.heap.size rfl (.const (.slice none 0 0)) (.tmp 73) 23 47 (.agg #[(.int .i64 0), (.int .i64 0), (.int .i64 0)]) 24 rfl Try.underlying23 info47 rfl (by decide) (by omega) (.slice none 0 0) ([] : List (S47)) l0 _ _ _ (fun _ => True) (fun _ => False) rfl rfl ?aO ?aR (fun _ _ h => h) (fun _ h => h.elim) ?aF ?aB ?aS ?aL ?_; (case aR => repeat (first | exact (Kd.C_below HR0.out HB.out) | (with_reducible refine Kd.C_alloc ?_ _) | (with_reducible refine Kd.C_drewN ?_ _) | (with_reducible refine Kd.C_drew ?_))); (case aB => exact (by repeat (first | (with_reducible first | exact HB.out | apply below_alloc | apply pw_below_drewN | apply below_drew1) | exact HB.out))); (case aF => exact (fun _ _ => trivial)); (case aO => exact ((Kd.R_nil _ _ _ _ (fun _ => True)))); (case aS => exact (below_size (by repeat (first | (with_reducible first | exact HB.out | apply below_alloc | apply pw_below_drewN | apply below_drew1) | exact HB.out)))); (case aL => have := LMc44.out; omega); intro v162 w46 ho hb hg hat; rw [← Ny161.out] at ho; have n0_ := Aside0.mk (hb); have n1_ := Aside0.mk (ho); clear HB; have HB := n0_; have HO163 := n1_; clear n0_ n1_; clear ho hb hg hat) | ((with_reducible refine gate_builtin (b := .append) (xs := #[.tmp 74, .tmp 76]) rfl ?_); (try (refine gate_guard (by rfl) ?_; dsimp only)); at_builtin; refine Kd.R_append k47 (w0 := w) w.heap.size rfl (.tmp 74) (.tmp 76) 23 47 (.agg #[(.int .i64 0), (.int .i64 0), (.int .i64 0)]) 24 rfl Try.underlying23 info47 rfl (by decide) (by omega) v162 y161 (⟨65535, 65535, 65536⟩ : S47) [.int .i64 65535, .int .i64 65535, .int .i64 65536] (fun _ => True) (fun _ => False) rfl rfl ?aP (fun _ hk => hk.elim) ?aF ?aO ?aB ?aS ?aL ?_; (case aP => exact k47_mkM _ _ _ (⟨65535, 65535, 65536⟩ : S47)); (case aB => exact (by repeat (first | (with_reducible first | exact HB.out | apply below_alloc | apply pw_below_drewN | apply below_drew1) | exact HB.out))); (case aF => exact (fun _ _ => trivial)); (case aO => exact (by (with_reducible repeat (first | apply Kd.R_alloc | apply Kd.R_drewN | apply Kd.R_drew)); exact HO163.out)); (case aS => exact (below_size (by repeat (first | (with_reducible first | exact HB.out | apply below_alloc | apply pw_below_drewN | apply below_drew1) | exact HB.out)))); (case aL => have := LMc45.out; omega); intro v165 w47 ho hb hg hat; rw [← Ny164.out] at ho; have n0_ := Aside0.mk (hb); have n1_ := Aside0.mk (ho); clear HB; clear HO163; have HB := n0_; have HO166 := n1_; clear n0_ n1_; clear ho hb hg hat; obtain ⟨Ao48, co48, eo48⟩ := Kd.R_slice HO166.out; subst eo48))
        go_loopg [11, 12] kj35 (fun kq v11 v12 w' => ∃ (x11_2 : Int) (x12_2 : Int), v11 = .int .i64 x11_2 ∧ v12 = .int .i64 x12_2 ∧ Aside0 (cmap_Build.l1 kq y164 (y164.length : Int) x11_2 x12_2 = some (r1, r2)) ∧ Aside0 (kq ≤ kj35) ∧ Aside0 (Kd.R k47 47 w' w.heap.size (fun _ => True) (.slice Ao48 y164.length co48) y164) ∧ Aside0 (Below w.heap.size w w'))
        case atStart => exact ⟨(1), (0), (by first | rfl | (simp; done) | (simp [*]; done)), (by first | rfl | (simp; done) | (simp [*]; done)), H', ⟨Nat.le_refl _⟩, ⟨by (with_reducible repeat (first | apply Kd.R_alloc | apply Kd.R_drewN | apply Kd.R_drew)); exact HO166.out⟩, ⟨by repeat (first | (with_reducible first | exact HB.out | apply below_alloc | apply pw_below_drewN | apply below_drew1) | exact HB.out)⟩⟩
        case round =>
         clear H'
         try clear c1
         try clear p1
         try clear q1
         try clear hx1
         try clear c2
         try clear p2
         try clear c3
         try clear hcv3
         try clear c4
         try clear c5
         try clear p6
         try clear c14
         try clear p15
         try clear q15
         try clear hx15
         try clear c16
         try clear p16
         try clear q16
         try clear hx16
         try clear c24
         try clear c24b0
         try clear c25
         try clear c25b0
         try clear c26
         try clear c26b0
         try clear c28
         try clear c29
         try clear hcv35
         try clear c38
         try clear c38b0
         try clear c38b1
         try clear c39
         try clear c39b0
         try clear c39b1
         try clear c41
         try clear c41b0
         try clear c42
         try clear c42b0
         try clear c43
         try clear c44
         try clear c45
         try clear hcz29_0
         try clear hcz29_1
         try clear hcz29_2
         try clear hfz29_0
         try clear hfz29_1
         try clear hfz29_2
         try clear hx152_0
         try clear hx152_1
         try clear hx152_2
         try clear hx160_0
         try clear hx160_1
         try clear hx160_2
         try clear p1
         try clear p15
         try clear p152
         try clear p16
         try clear p160
         try clear p2
         try clear p6
         try clear q1
         try clear q15
         try clear q152
         try clear q16
         try clear q160
         obtain ⟨x11_2, x12_2, rfl, rfl, HA, HK2, HO_9, HB⟩ := hrel
         cases gk with
         | zero => exact absurd HA.out (by simp [cmap_Build.l1])
         | succ k2 =>
          have H := HA.out
          clear HA
          simp only [cmap_Build.l1] at H
          by_cases c49 : (wrap64 (2 * x11_2)) ≤ (y164.length : Int)
          ·rw [if_pos c49] at H
           have c49b0 : decide ((wrap64 (2 * x11_2)) ≤ (y164.length : Int)) = true := decide_eq_true c49
           (try (have c49b0w := c49b0; ((first | rw [pw_wdiv _ _ (by omega) (by omega)] at c49b0w | rw [pw_wdiv' _ _ (by omega) (by omega)] at c49b0w | rw [Go.IntWalk.wrap64_in _ (by omega)] at c49b0w); repeat (first | rw [pw_wdiv _ _ (by omega) (by omega)] at c49b0w | rw [pw_wdiv' _ _ (by omega) (by omega)] at c49b0w | rw [Go.IntWalk.wrap64_in _ (by omega)] at c49b0w))))
           clear c49
           have H' := Aside0.mk H
           clear H
           go_wp2
           go_roundg k2
           case measure => have := HJ35.out; have := HK2.out; omega
           case rel => exact ⟨(wrap64 (2 * x11_2)), (wrap64 (x12_2 + 1)), (by first | rfl | (simp; done) | (simp [*]; done)), (by first | rfl | (simp; done) | (simp [*]; done)), H', ⟨by have := HJ35.out; have := HK2.out; omega⟩, ⟨by (with_reducible repeat (first | apply Kd.R_alloc | apply Kd.R_drewN | apply Kd.R_drew)); exact HO_9.out⟩, ⟨by repeat (first | (with_reducible first | exact HB.out | apply below_alloc | apply pw_below_drewN | apply below_drew1) | exact HB.out)⟩⟩
          ·rw [if_neg c49] at H
           have c49b0 : decide ((wrap64 (2 * x11_2)) ≤ (y164.length : Int)) = false := decide_eq_false c49
           (try (have c49b0w := c49b0; ((first | rw [pw_wdiv _ _ (by omega) (by omega)] at c49b0w | rw [pw_wdiv' _ _ (by omega) (by omega)] at c49b0w | rw [Go.IntWalk.wrap64_in _ (by omega)] at c49b0w); repeat (first | rw [pw_wdiv _ _ (by omega) (by omega)] at c49b0w | rw [pw_wdiv' _ _ (by omega) (by omega)] at c49b0w | rw [Go.IntWalk.wrap64_in _ (by omega)] at c49b0w))))
           clear c49
           obtain ⟨y167, hy167⟩ : ∃ y_ : List Int, y_ = (([0, 1, 3, 1] : List Int)) := ⟨_, rfl⟩
           replace H : ((cmap_put.f k2 ([] : List Int) y167).bind fun t170 => ((cmap_long.f k2 t170 (([12] : List Int))).bind fun t176 => ((cmap_put.f k2 t176 (([4, wrap64 (16 + (wrap64 (8 * (y164.length : Int)))), 0, wrap64 (2 * (y164.length : Int)), wrap64 (2 * x11_2), x12_2, wrap64 ((wrap64 (2 * (y164.length : Int))) - (wrap64 (2 * x11_2)))] : List Int))).bind fun t182 => (cmap_Build.l2 k2 y164 (y164.length : Int) t182 y164 (y164.length : Int) 0)))) = some (r1, r2) := by first | (rw [hy167]; with_reducible exact H) | (have H2_ := (Option.bind_some _ _).symm.trans H; rw [hy167]; with_reducible exact H2_) | (have H2_ := (Option.bind_some _ _).symm.trans H; with_reducible exact H2_) | with_reducible exact H | (rw [hy167]; exact H) | exact H
           have Ny167 := Aside0.mk hy167
           clear hy167
           replace H := Option.bind_eq_some_iff.mp H
           obtain ⟨t170, A500, H⟩ := H
           (try dsimp only at H)
           have A50 := Aside0.mk A500
           clear A500
           obtain ⟨y173, hy173⟩ : ∃ y_ : List Int, y_ = (([12] : List Int)) := ⟨_, rfl⟩
           replace H : ((cmap_long.f k2 t170 y173).bind fun t176 => ((cmap_put.f k2 t176 (([4, wrap64 (16 + (wrap64 (8 * (y164.length : Int)))), 0, wrap64 (2 * (y164.length : Int)), wrap64 (2 * x11_2), x12_2, wrap64 ((wrap64 (2 * (y164.length : Int))) - (wrap64 (2 * x11_2)))] : List Int))).bind fun t182 => (cmap_Build.l2 k2 y164 (y164.length : Int) t182 y164 (y164.length : Int) 0))) = some (r1, r2) := by first | (rw [hy173]; with_reducible exact H) | (have H2_ := (Option.bind_some _ _).symm.trans H; rw [hy173]; with_reducible exact H2_) | (have H2_ := (Option.bind_some _ _).symm.trans H; with_reducible exact H2_) | with_reducible exact H | (rw [hy173]; exact H) | exact H
           have Ny173 := Aside0.mk hy173
           clear hy173
           replace H := Option.bind_eq_some_iff.mp H
           obtain ⟨t176, A510, H⟩ := H
           (try dsimp only at H)
           have A51 := Aside0.mk A510
           clear A510
           obtain ⟨y179, hy179⟩ : ∃ y_ : List Int, y_ = (([4, wrap64 (16 + (wrap64 (8 * (y164.length : Int)))), 0, wrap64 (2 * (y164.length : Int)), wrap64 (2 * x11_2), x12_2, wrap64 ((wrap64 (2 * (y164.length : Int))) - (wrap64 (2 * x11_2)))] : List Int)) := ⟨_, rfl⟩
           replace H : ((cmap_put.f k2 t176 y179).bind fun t182 => (cmap_Build.l2 k2 y164 (y164.length : Int) t182 y164 (y164.length : Int) 0)) = some (r1, r2) := by first | (rw [hy179]; with_reducible exact H) | (have H2_ := (Option.bind_some _ _).symm.trans H; rw [hy179]; with_reducible exact H2_) | (have H2_ := (Option.bind_some _ _).symm.trans H; with_reducible exact H2_) | with_reducible exact H | (rw [hy179]; exact H) | exact H
           have Ny179 := Aside0.mk hy179
           clear hy179
           replace H := Option.bind_eq_some_iff.mp H
           obtain ⟨t182, A520, H⟩ := H
           (try dsimp only at H)
           have A52 := Aside0.mk A520
           clear A520
           have H' := Aside0.mk H
           clear H
           go_wp2_with (first | ((with_reducible refine gate_dst (N := 88) rfl ?_); (try (refine gate_guard (by rfl) ?_; dsimp only)); refine Kd.R_lit (Kd.int .i64) _ 3 ?hg (N := 88) ?hd (xs := ([0, 1, 3, 1] : List Int)) (inner := [.int .i64 0, .int .i64 1, .int .i64 3, .int .i64 1]) (ok := fun _ => True) (okp := fun _ => True) ?hr ?hp (fun _ hk => hk) trivial (Below.refl _ _) (Nat.le_refl _) (by simp) ?_; (case hd => rfl); (case hg => rfl); (case hr => first | (go_simp; done) | (go_simp; rfl)); (case hp => exact (Reps.one (show Kd.M (Kd.int .i64) _ _ _ 0 [.int .i64 0] from rfl) (Reps.one (show Kd.M (Kd.int .i64) _ _ _ 1 [.int .i64 1] from rfl) (Reps.one (show Kd.M (Kd.int .i64) _ _ _ 3 [.int .i64 3] from rfl) (Reps.one (show Kd.M (Kd.int .i64) _ _ _ 1 [.int .i64 1] from rfl) (Reps.none _ _)))))); intro v168 w53 ho54 hb hg_ hnew_; clear hg_ hnew_; (first | rw [← Ny167.out] at ho54 | (simp only [Int.reduceToNat] at ho54; rw [← Ny167.out] at ho54)); have n0_ := Aside0.mk (Kd.R_below (by (with_reducible repeat (first | apply Kd.R_alloc | apply Kd.R_drewN | apply Kd.R_drew)); exact HO_9.out) hb); have n1_ := Aside0.mk (Kd.R_lower ho54 (below_size (by repeat (first | (with_reducible first | exact HB.out | apply below_alloc | apply pw_below_drewN | apply below_drew1) | exact HB.out)))); have n2_ := Aside0.mk (below_step (by repeat (first | (with_reducible first | exact HB.out | apply below_alloc | apply pw_below_drewN | apply below_drew1) | exact HB.out)) hb); clear HO_9; clear HB; have HO_9 := n0_; have HO169 := n1_; have HB := n2_; clear n0_ n1_ n2_; clear hb ho54; obtain ⟨Ao55, co55, eo55⟩ := Kd.R_slice HO169.out; subst eo55) | ((with_reducible refine gate_callee (f := 29) rfl ?_); refine goesL_ (some 89) rfl rfl Try.func29 (by kernel_rfl) rfl #[.slice none 0 0, .slice Ao55 y167.length co55] rfl (by (try simp only [List.map_toArray, List.map_cons, List.map_nil]); first | done | rfl | (simp only [List.length_drop, List.length_take]; rfl)) ?_; (refine (cmap_put.calls k2 (fun k_ => some k_ = (.slice none 0 0 : Value).ownBlock) (.slice none 0 0) ([] : List Int) _ _ y167 t170 w _ ?side1 ?side2 ?side3 ?side4 A50.out).mono ?_); (case side1 => repeat (first | (with_reducible first | exact HB.out | apply below_alloc | apply pw_below_drewN | apply below_drew1) | exact HB.out)); (case side2 => exact Kd.R_nil _ _ _ _ _); (case side3 => exact Kd.C_kept_own (HO169.out) (fun k_ hk_ hs_ => (fun e_ => by simp [Value.ownBlock] at e_) hs_)); (case side4 => exact (Kd.R_reads' HO169.out).2.1); rintro e w56 ⟨v171, rfl, ho0, hb, hkp⟩; refine ⟨_, rfl, ?_⟩; have n0_ := Aside0.mk (Kd.R_mono (ok' := fun k_ => True) (Kd.R_keptB (HO_9.out) hkp (fun k_ hk_ hs_ => (fun e_ => by simp [Value.ownBlock] at e_) hs_)) (fun k_ hk_ => trivial)); have n1_ := Aside0.mk (Kd.R_mono (ok' := fun k_ => True) (Kd.R_keptB (HO169.out) hkp (fun k_ hk_ hs_ => (fun e_ => by simp [Value.ownBlock] at e_) hs_)) (fun k_ hk_ => trivial)); have n2_ := Aside0.mk (Kd.R_mono (ok' := fun k_ => True) ho0 (fun k_ hk_ => trivial)); have n3_ := Aside0.mk (hb); clear HO_9; clear HO169; clear HB; have HO_9 := n0_; have HO169 := n1_; have HO172 := n2_; have HB := n3_; clear n0_ n1_ n2_ n3_; (try clear hb); (try clear hkp); (try clear ho0)) | ((with_reducible refine gate_dst (N := 90) rfl ?_); (try (refine gate_guard (by rfl) ?_; dsimp only)); refine Kd.R_lit (Kd.int .i64) _ 3 ?hg (N := 90) ?hd (xs := ([12] : List Int)) (inner := [.int .i64 12]) (ok := fun _ => True) (okp := fun _ => True) ?hr ?hp (fun _ hk => hk) trivial (Below.refl _ _) (Nat.le_refl _) (by simp) ?_; (case hd => rfl); (case hg => rfl); (case hr => first | (go_simp; done) | (go_simp; rfl)); (case hp => exact (Reps.one (show Kd.M (Kd.int .i64) _ _ _ 12 [.int .i64 12] from rfl) (Reps.none _ _))); intro v174 w57 ho58 hb hg_ hnew_; clear hg_ hnew_; (first | rw [← Ny173.out] at ho58 | (simp only [Int.reduceToNat] at ho58; rw [← Ny173.out] at ho58)); have n0_ := Aside0.mk (Kd.R_below (by (with_reducible repeat (first | apply Kd.R_alloc | apply Kd.R_drewN | apply Kd.R_drew)); exact HO_9.out) hb); have n1_ := Aside0.mk (Kd.R_elder' (by (with_reducible repeat (first | apply Kd.R_alloc | apply Kd.R_drewN | apply Kd.R_drew)); exact HO169.out) (Kd.R_base ho58) hb); have n2_ := Aside0.mk (Kd.R_below (by (with_reducible repeat (first | apply Kd.R_alloc | apply Kd.R_drewN | apply Kd.R_drew)); exact HO172.out) hb); have n3_ := Aside0.mk (Kd.R_lower (Kd.R_new' ho58 (Kd.R_lt (by (with_reducible repeat (first | apply Kd.R_alloc | apply Kd.R_drewN | apply Kd.R_drew)); exact HO169.out))) (below_size (by repeat (first | (with_reducible first | exact HB.out | apply below_alloc | apply pw_below_drewN | apply below_drew1) | exact HB.out)))); have n4_ := Aside0.mk (below_step (by repeat (first | (with_reducible first | exact HB.out | apply below_alloc | apply pw_below_drewN | apply below_drew1) | exact HB.out)) hb); clear HO_9; clear HO169; clear HO172; clear HB; have HO_9 := n0_; have HO169 := n1_; have HO172 := n2_; have HO175 := n3_; have HB := n4_; clear n0_ n1_ n2_ n3_ n4_; clear hb ho58; obtain ⟨Ao59, co59, eo59⟩ := Kd.R_slice HO172.out; subst eo59; obtain ⟨Ao60, co60, eo60⟩ := Kd.R_slice HO175.out; subst eo60) | ((with_reducible refine gate_callee (f := 28) rfl ?_); refine goesL_ (some 91) rfl rfl Try.func28 (by kernel_rfl) rfl #[.slice Ao59 t170.length co59, .slice Ao60 y173.length co60] rfl (by (try simp only [List.map_toArray, List.map_cons, List.map_nil]); first | done | rfl | (simp only [List.length_drop, List.length_take]; rfl)) ?_; (with_reducible refine (cmap_long.calls k2 (fun k_ => some k_ = (.slice Ao59 t170.length co59 : Value).ownBlock) (.slice Ao59 t170.length co59) t170 _ _ y173 t176 w _ ?side1 ?side2 ?side3 ?side4 A51.out).mono ?_); (case side1 => repeat (first | (with_reducible first | exact HB.out | apply below_alloc | apply pw_below_drewN | apply below_drew1) | exact HB.out)); (case side2 => exact Kd.R_tight rfl HO172.out); (case side3 => exact Kd.C_kept_own ((Kd.R_apart' HO175.out (Kd.R_typed HO172.out) (by decide))) (fun k_ hk_ hs_ => (hk_.2) hs_)); (case side4 => exact (Kd.R_reads' HO175.out).2.1); rintro e w61 ⟨v177, rfl, ho0, hb, hkp⟩; refine ⟨_, rfl, ?_⟩; have n0_ := Aside0.mk (Kd.R_mono (ok' := fun k_ => True) (Kd.R_keptB ((Kd.R_apart' HO_9.out (Kd.R_typed HO172.out) (by decide))) hkp (fun k_ hk_ hs_ => (hk_.2) hs_)) (fun k_ hk_ => trivial)); have n1_ := Aside0.mk (Kd.R_mono (ok' := fun k_ => some k_ ≠ (.slice Ao60 y173.length co60 : Value).ownBlock) (Kd.R_keptB ((Kd.R_apart' HO169.out (Kd.R_typed HO172.out) (by decide))) hkp (fun k_ hk_ hs_ => (hk_.2) hs_)) (fun k_ hk_ => hk_.1.1.2)); have n2_ := Aside0.mk (Kd.R_mono (ok' := fun k_ => some k_ ≠ (.slice Ao55 y167.length co55 : Value).ownBlock) (Kd.R_keptB ((Kd.R_apart' HO175.out (Kd.R_typed HO172.out) (by decide))) hkp (fun k_ hk_ hs_ => (hk_.2) hs_)) (fun k_ hk_ => hk_.1.1.2)); have n3_ := Aside0.mk (Kd.R_mono (ok' := fun k_ => True) ho0 (fun k_ hk_ => trivial)); have n4_ := Aside0.mk (hb); clear HO_9; clear HO169; clear HO175; clear HB; clear HO172; have HO_9 := n0_; have HO169 := n1_; have HO175 := n2_; have HO178 := n3_; have HB := n4_; clear n0_ n1_ n2_ n3_ n4_; (try clear hb); (try clear hkp); (try clear ho0)) | ((with_reducible refine gate_dst (N := 106) rfl ?_); (try (refine gate_guard (by rfl) ?_; dsimp only)); refine Kd.R_lit (Kd.int .i64) _ 3 ?hg (N := 106) ?hd (xs := ([4, wrap64 (16 + (wrap64 (8 * (y164.length : Int)))), 0, wrap64 (2 * (y164.length : Int)), wrap64 (2 * x11_2), x12_2, wrap64 ((wrap64 (2 * (y164.length : Int))) - (wrap64 (2 * x11_2)))] : List Int)) (inner := [.int .i64 4, .int .i64 (wrap64 (16 + (wrap64 (8 * (y164.length : Int))))), .int .i64 0, .int .i64 (wrap64 (2 * (y164.length : Int))), .int .i64 (wrap64 (2 * x11_2)), .int .i64 x12_2, .int .i64 (wrap64 ((wrap64 (2 * (y164.length : Int))) - (wrap64 (2 * x11_2))))]) (ok := fun _ => True) (okp := fun _ => True) ?hr ?hp (fun _ hk => hk) trivial (Below.refl _ _) (Nat.le_refl _) (by simp) ?_; (case hd => rfl); (case hg => rfl); (case hr => first | (go_simp; done) | (go_simp; rfl)); (case hp => exact (Reps.one (show Kd.M (Kd.int .i64) _ _ _ 4 [.int .i64 4] from rfl) (Reps.one (show Kd.M (Kd.int .i64) _ _ _ (wrap64 (16 + (wrap64 (8 * (y164.length : Int))))) [.int .i64 (wrap64 (16 + (wrap64 (8 * (y164.length : Int)))))] from rfl) (Reps.one (show Kd.M (Kd.int .i64) _ _ _ 0 [.int .i64 0] from rfl) (Reps.one (show Kd.M (Kd.int .i64) _ _ _ (wrap64 (2 * (y164.length : Int))) [.int .i64 (wrap64 (2 * (y164.length : Int)))] from rfl) (Reps.one (show Kd.M (Kd.int .i64) _ _ _ (wrap64 (2 * x11_2)) [.int .i64 (wrap64 (2 * x11_2))] from rfl) (Reps.one (show Kd.M (Kd.int .i64) _ _ _ x12_2 [.int .i64 x12_2] from rfl) (Reps.one (show Kd.M (Kd.int .i64) _ _ _ (wrap64 ((wrap64 (2 * (y164.length : Int))) - (wrap64 (2 * x11_2)))) [.int .i64 (wrap64 ((wrap64 (2 * (y164.length : Int))) - (wrap64 (2 * x11_2))))] from rfl) (Reps.none _ _))))))))); intro v180 w62 ho63 hb hg_ hnew_; clear hg_ hnew_; (first | rw [← Ny179.out] at ho63 | (simp only [Int.reduceToNat] at ho63; rw [← Ny179.out] at ho63)); have n0_ := Aside0.mk (Kd.R_below (by (with_reducible repeat (first | apply Kd.R_alloc | apply Kd.R_drewN | apply Kd.R_drew)); exact HO_9.out) hb); have n1_ := Aside0.mk (Kd.R_elder' (by (with_reducible repeat (first | apply Kd.R_alloc | apply Kd.R_drewN | apply Kd.R_drew)); exact HO169.out) (Kd.R_base ho63) hb); have n2_ := Aside0.mk (Kd.R_elder' (by (with_reducible repeat (first | apply Kd.R_alloc | apply Kd.R_drewN | apply Kd.R_drew)); exact HO175.out) (Kd.R_base ho63) hb); have n3_ := Aside0.mk (Kd.R_below (by (with_reducible repeat (first | apply Kd.R_alloc | apply Kd.R_drewN | apply Kd.R_drew)); exact HO178.out) hb); have n4_ := Aside0.mk (Kd.R_lower (Kd.R_new' (Kd.R_new' ho63 (Kd.R_lt (by (with_reducible repeat (first | apply Kd.R_alloc | apply Kd.R_drewN | apply Kd.R_drew)); exact HO169.out))) (Kd.R_lt (by (with_reducible repeat (first | apply Kd.R_alloc | apply Kd.R_drewN | apply Kd.R_drew)); exact HO175.out))) (below_size (by repeat (first | (with_reducible first | exact HB.out | apply below_alloc | apply pw_below_drewN | apply below_drew1) | exact HB.out)))); have n5_ := Aside0.mk (below_step (by repeat (first | (with_reducible first | exact HB.out | apply below_alloc | apply pw_below_drewN | apply below_drew1) | exact HB.out)) hb); clear HO_9; clear HO169; clear HO175; clear HO178; clear HB; have HO_9 := n0_; have HO169 := n1_; have HO175 := n2_; have HO178 := n3_; have HO181 := n4_; have HB := n5_; clear n0_ n1_ n2_ n3_ n4_ n5_; clear hb ho63; obtain ⟨Ao64, co64, eo64⟩ := Kd.R_slice HO178.out; subst eo64; obtain ⟨Ao65, co65, eo65⟩ := Kd.R_slice HO181.out; subst eo65) | ((with_reducible refine gate_callee (f := 29) rfl ?_); refine goesL_ (some 107) rfl rfl Try.func29 (by kernel_rfl) rfl #[.slice Ao64 t176.length co64, .slice Ao65 y179.length co65] rfl (by (try simp only [List.map_toArray, List.map_cons, List.map_nil]); first | done | rfl | (simp only [List.length_drop, List.length_take]; rfl)) ?_; (with_reducible refine (cmap_put.calls k2 (fun k_ => some k_ = (.slice Ao64 t176.length co64 : Value).ownBlock) (.slice Ao64 t176.length co64) t176 _ _ y179 t182 w _ ?side1 ?side2 ?side3 ?side4 A52.out).mono ?_); (case side1 => repeat (first | (with_reducible first | exact HB.out | apply below_alloc | apply pw_below_drewN | apply below_drew1) | exact HB.out)); (case side2 => exact Kd.R_tight rfl HO178.out); (case side3 => exact Kd.C_kept_own ((Kd.R_apart' HO181.out (Kd.R_typed HO178.out) (by decide))) (fun k_ hk_ hs_ => (hk_.2) hs_)); (case side4 => exact (Kd.R_reads' HO181.out).2.1); rintro e w66 ⟨v183, rfl, ho0, hb, hkp⟩; refine ⟨_, rfl, ?_⟩; have n0_ := Aside0.mk (Kd.R_mono (ok' := fun k_ => True) (Kd.R_keptB ((Kd.R_apart' HO_9.out (Kd.R_typed HO178.out) (by decide))) hkp (fun k_ hk_ hs_ => (hk_.2) hs_)) (fun k_ hk_ => trivial)); have n1_ := Aside0.mk (Kd.R_mono (ok' := fun k_ => some k_ ≠ (.slice Ao60 y173.length co60 : Value).ownBlock ∧ some k_ ≠ (.slice Ao65 y179.length co65 : Value).ownBlock) (Kd.R_keptB ((Kd.R_apart' HO169.out (Kd.R_typed HO178.out) (by decide))) hkp (fun k_ hk_ hs_ => (hk_.2) hs_)) (fun k_ hk_ => ⟨hk_.1.1.1, hk_.1.1.2⟩)); have n2_ := Aside0.mk (Kd.R_mono (ok' := fun k_ => some k_ ≠ (.slice Ao55 y167.length co55 : Value).ownBlock ∧ some k_ ≠ (.slice Ao65 y179.length co65 : Value).ownBlock) (Kd.R_keptB ((Kd.R_apart' HO175.out (Kd.R_typed HO178.out) (by decide))) hkp (fun k_ hk_ hs_ => (hk_.2) hs_)) (fun k_ hk_ => ⟨hk_.1.1.1, hk_.1.1.2⟩)); have n3_ := Aside0.mk (Kd.R_mono (ok' := fun k_ => some k_ ≠ (.slice Ao55 y167.length co55 : Value).ownBlock ∧ some k_ ≠ (.slice Ao60 y173.length co60 : Value).ownBlock) (Kd.R_keptB ((Kd.R_apart' HO181.out (Kd.R_typed HO178.out) (by decide))) hkp (fun k_ hk_ hs_ => (hk_.2) hs_)) (fun k_ hk_ => ⟨hk_.1.1.1.2, hk_.1.1.2⟩)); have n4_ := Aside0.mk (Kd.R_mono (ok' := fun k_ => True) ho0 (fun k_ hk_ => trivial)); have n5_ := Aside0.mk (hb); clear HO_9; clear HO169; clear HO175; clear HO181; clear HB; clear HO178; have HO_9 := n0_; have HO169 := n1_; have HO175 := n2_; have HO181 := n3_; have HO184 := n4_; have HB := n5_; clear n0_ n1_ n2_ n3_ n4_ n5_; (try clear hb); (try clear hkp); (try clear ho0)))
           go_loopg [13, 110] k2 (fun kq v13 v110 w' => ∃ (x13_3 : List Int) (x110_3 : Int), v110 = .int .i64 x110_3 ∧ Aside0 (cmap_Build.l2 kq y164 (y164.length : Int) x13_3 y164 (y164.length : Int) x110_3 = some (r1, r2)) ∧ Aside0 (kq ≤ k2) ∧ Aside0 (Kd.R k47 47 w' w.heap.size (fun _ => True) (.slice Ao48 y164.length co48) y164) ∧ Aside0 (Kd.R (Kd.int .u8) 5 w' w.heap.size (fun _ => True) v13 x13_3) ∧ Aside0 (Kd.R k47 47 w' w.heap.size (fun _ => True) (.slice Ao48 y164.length co48) y164) ∧ Aside0 (Below w.heap.size w w'))
           case atStart => exact ⟨(t182), (0), (by first | rfl | (simp; done) | (simp [*]; done)), H', ⟨Nat.le_refl _⟩, ⟨by (with_reducible repeat (first | apply Kd.R_alloc | apply Kd.R_drewN | apply Kd.R_drew)); exact HO_9.out⟩, ⟨by (with_reducible repeat (first | apply Kd.R_alloc | apply Kd.R_drewN | apply Kd.R_drew)); exact HO184.out⟩, ⟨by (with_reducible repeat (first | apply Kd.R_alloc | apply Kd.R_drewN | apply Kd.R_drew)); exact HO_9.out⟩, ⟨by repeat (first | (with_reducible first | exact HB.out | apply below_alloc | apply pw_below_drewN | apply below_drew1) | exact HB.out)⟩⟩
           case round =>
            clear H'
            try clear c1
            try clear p1
            try clear q1
            try clear hx1
            try clear c2
            try clear p2
            try clear c3
            try clear hcv3
            try clear c4
            try clear c5
            try clear p6
            try clear c14
            try clear p15
            try clear q15
            try clear hx15
            try clear c16
            try clear p16
            try clear q16
            try clear hx16
            try clear c24
            try clear c24b0
            try clear c25
            try clear c25b0
            try clear c26
            try clear c26b0
            try clear c28
            try clear c29
            try clear hcv35
            try clear c38
            try clear c38b0
            try clear c38b1
            try clear c39
            try clear c39b0
            try clear c39b1
            try clear c41
            try clear c41b0
            try clear c42
            try clear c42b0
            try clear c43
            try clear c44
            try clear c45
            try clear c49
            try clear c49b0
            try clear p64
            try clear hcz29_0
            try clear hcz29_1
            try clear hcz29_2
            try clear hfz29_0
            try clear hfz29_1
            try clear hfz29_2
            try clear hx152_0
            try clear hx152_1
            try clear hx152_2
            try clear hx160_0
            try clear hx160_1
            try clear hx160_2
            try clear p1
            try clear p15
            try clear p152
            try clear p16
            try clear p160
            try clear p2
            try clear p6
            try clear q1
            try clear q15
            try clear q152
            try clear q16
            try clear q160
            obtain ⟨x13_3, x110_3, rfl, HA, HK3, HO_9, HO_13, HO_108, HB⟩ := hrel
            cases gk with
            | zero => exact absurd HA.out (by simp [cmap_Build.l2])
            | succ k3 =>
             have H := HA.out
             clear HA
             simp only [cmap_Build.l2] at H
             by_cases c67 : x110_3 < (y164.length : Int)
             ·rw [if_pos c67] at H
              have c67b0 : decide (x110_3 < (y164.length : Int)) = true := decide_eq_true c67
              clear c67
              by_cases c68 : 0 ≤ x110_3
              ·rw [if_pos c68] at H
               have c68b0 : decide (0 ≤ x110_3) = true := decide_eq_true c68
               clear c68
               by_cases c69 : x110_3 < (y164.length : Int)
               ·rw [if_pos c69] at H
                have c69b0 : decide (x110_3 < (y164.length : Int)) = true := decide_eq_true c69
                clear c69
                obtain ⟨y187, hy187⟩ : ∃ y_ : List Int, y_ = (([(rd_T47 y164 x110_3).f1] : List Int)) := ⟨_, rfl⟩
                replace H : ((cmap_put.f k3 x13_3 y187).bind fun t190 => (cmap_Build.l2 k3 y164 (y164.length : Int) t190 y164 (y164.length : Int) (wrap64 (x110_3 + 1)))) = some (r1, r2) := by first | (rw [hy187]; with_reducible exact H) | (have H2_ := (Option.bind_some _ _).symm.trans H; rw [hy187]; with_reducible exact H2_) | (have H2_ := (Option.bind_some _ _).symm.trans H; with_reducible exact H2_) | with_reducible exact H | (rw [hy187]; exact H) | exact H
                have Ny187 := Aside0.mk hy187
                clear hy187
                replace H := Option.bind_eq_some_iff.mp H
                obtain ⟨t190, A700, H⟩ := H
                (try dsimp only at H)
                have A70 := Aside0.mk A700
                clear A700
                have H' := Aside0.mk H
                clear H
                have p185 : 0 ≤ (x110_3 : Int) := of_decide_eq_true (by first | (with_reducible assumption) | assumption)
                have q185 : x110_3 < (y164.length : Int) := of_decide_eq_true (by first | (with_reducible assumption) | assumption)
                obtain ⟨ad185, e185, hx185_0, hx185_1, hx185_2⟩ := at_T47 (Kd.R_reads' HO_108.out).2.2 x110_3 p185 q185
                cases e185
                replace p185 := eq_true p185
                replace q185 := eq_true q185
                go_wp2_with (first | ((with_reducible refine gate_dst (N := 15) rfl ?_); (try (refine gate_guard (by rfl) ?_; dsimp only)); refine box_event ?hg (N := 15) ?hd (cs := #[.int .i64 0, .int .i64 0, .int .i64 0]) (t := 47) ?hr ?_; (case hd => rfl); (case hg => rfl); (case hr => first | (go_simp; done) | (go_simp; rfl)); intro gb186 hg w71 hbox hb; have n0_ := Aside0.mk (Kd.R_below (Kd.R_elderB (by (with_reducible repeat (first | apply Kd.R_alloc | apply Kd.R_drewN | apply Kd.R_drew)); exact HO_9.out) gb186 (Nat.le_of_eq hg.symm)) hb); have n1_ := Aside0.mk (Kd.R_below (by (with_reducible repeat (first | apply Kd.R_alloc | apply Kd.R_drewN | apply Kd.R_drew)); exact HO_13.out) hb); have n2_ := Aside0.mk (Kd.R_below (Kd.R_elderB (by (with_reducible repeat (first | apply Kd.R_alloc | apply Kd.R_drewN | apply Kd.R_drew)); exact HO_108.out) gb186 (Nat.le_of_eq hg.symm)) hb); have n3_ := Aside0.mk (below_step (by repeat (first | (with_reducible first | exact HB.out | apply below_alloc | apply pw_below_drewN | apply below_drew1) | exact HB.out)) hb); have n4_ := Aside0.mk (hbox); have n5_ := Aside0.mk ((by rw [hg]; exact (below_size (by repeat (first | (with_reducible first | exact HB.out | apply below_alloc | apply pw_below_drewN | apply below_drew1) | exact HB.out))) : w.heap.size ≤ gb186)); have n6_ := Aside0.mk ((by rw [hg]; exact (below_size (by repeat (first | (with_reducible first | exact HB.out | apply below_alloc | apply pw_below_drewN | apply below_drew1) | exact HB.out))) : w.heap.size ≤ gb186)); clear HO_9; clear HO_13; clear HO_108; clear HB; have HO_9 := n0_; have HO_13 := n1_; have HO_108 := n2_; have HB := n3_; have BK186 := n4_; have GW186 := n5_; have GE186 := n6_; clear n0_ n1_ n2_ n3_ n4_ n5_ n6_; clear hb hbox hg; have hcz72_0 : w71.cell? ⟨gb186, 0, none⟩ = some (.int .i64 0) := (blk_cell BK186.out 0).trans rfl; have hcz72_1 : w71.cell? ⟨gb186, 1, none⟩ = some (.int .i64 0) := (blk_cell BK186.out 1).trans rfl; have hcz72_2 : w71.cell? ⟨gb186, 2, none⟩ = some (.int .i64 0) := (blk_cell BK186.out 2).trans rfl; have hfz72_0 := blk_frozen BK186.out 0; have hfz72_1 := blk_frozen BK186.out 1; have hfz72_2 := blk_frozen BK186.out 2) | ((with_reducible refine gate_dst (N := 117) rfl ?_); (try (refine gate_guard (by rfl) ?_; dsimp only)); refine Kd.R_lit (Kd.int .i64) _ 3 ?hg (N := 117) ?hd (xs := ([(rd_T47 y164 x110_3).f1] : List Int)) (inner := [.int .i64 ((rd_T47 y164 x110_3).f1)]) (ok := fun _ => True) (okp := fun _ => True) ?hr ?hp (fun _ hk => hk) trivial (Below.refl _ _) (Nat.le_refl _) (by simp) ?_; (case hd => rfl); (case hg => rfl); (case hr => first | (go_simp; done) | (go_simp; rfl)); (case hp => exact (Reps.one (show Kd.M (Kd.int .i64) _ _ _ ((rd_T47 y164 x110_3).f1) [.int .i64 ((rd_T47 y164 x110_3).f1)] from rfl) (Reps.none _ _))); intro v188 w73 ho74 hb hg_ hnew_; clear hg_ hnew_; (first | rw [← Ny187.out] at ho74 | (simp only [Int.reduceToNat] at ho74; rw [← Ny187.out] at ho74)); have n0_ := Aside0.mk (Kd.R_below (by (with_reducible repeat (first | apply Kd.R_alloc | apply Kd.R_drewN | apply Kd.R_drew)); exact (Kd.R_mono (Kd.R_far (p := ⟨gb186, 2, none⟩) (Kd.R_far (p := ⟨gb186, 1, none⟩) (Kd.R_far (p := ⟨gb186, 0, none⟩) (Kd.R_mono HO_9.out (fun k_ hk => (⟨hk, hk.2⟩ : _ ∧ k_ ≠ gb186))) (fun _ hk => hk.2) (.int .i64 ((rd_T47 y164 x110_3).f0))) (fun _ hk => hk.2) (.int .i64 ((rd_T47 y164 x110_3).f1))) (fun _ hk => hk.2) (.int .i64 ((rd_T47 y164 x110_3).f2))) (fun _ h_ => h_.1))) hb); have n1_ := Aside0.mk (Kd.R_below (by (with_reducible repeat (first | apply Kd.R_alloc | apply Kd.R_drewN | apply Kd.R_drew)); exact (Kd.R_mono (Kd.R_far (p := ⟨gb186, 2, none⟩) (Kd.R_far (p := ⟨gb186, 1, none⟩) (Kd.R_far (p := ⟨gb186, 0, none⟩) (Kd.R_types HO_13.out BK186.out (by decide)) (fun _ hk => hk.2) (.int .i64 ((rd_T47 y164 x110_3).f0))) (fun _ hk => hk.2) (.int .i64 ((rd_T47 y164 x110_3).f1))) (fun _ hk => hk.2) (.int .i64 ((rd_T47 y164 x110_3).f2))) (fun _ h_ => h_.1))) hb); have n2_ := Aside0.mk (Kd.R_below (by (with_reducible repeat (first | apply Kd.R_alloc | apply Kd.R_drewN | apply Kd.R_drew)); exact (Kd.R_mono (Kd.R_far (p := ⟨gb186, 2, none⟩) (Kd.R_far (p := ⟨gb186, 1, none⟩) (Kd.R_far (p := ⟨gb186, 0, none⟩) (Kd.R_mono HO_108.out (fun k_ hk => (⟨hk, hk.2⟩ : _ ∧ k_ ≠ gb186))) (fun _ hk => hk.2) (.int .i64 ((rd_T47 y164 x110_3).f0))) (fun _ hk => hk.2) (.int .i64 ((rd_T47 y164 x110_3).f1))) (fun _ hk => hk.2) (.int .i64 ((rd_T47 y164 x110_3).f2))) (fun _ h_ => h_.1))) hb); have n3_ := Aside0.mk (Kd.R_lower ho74 (below_size (by repeat (first | (with_reducible first | exact HB.out | apply below_alloc | apply pw_below_drewN | apply below_drew1 | refine below_set ?_ GE186.out) | exact HB.out)))); have n4_ := Aside0.mk (blk_below (g := gb186) (o := .cells #[.int .i64 ((rd_T47 y164 x110_3).f0), .int .i64 ((rd_T47 y164 x110_3).f1), .int .i64 ((rd_T47 y164 x110_3).f2)] 47 (0, 0)) (by (with_reducible repeat (first | refine blk_drewN ?_ _ | refine blk_drew ?_ | refine blk_alloc ?_ _)); refine blk_put (cs := #[.int .i64 ((rd_T47 y164 x110_3).f0), .int .i64 ((rd_T47 y164 x110_3).f1), .int .i64 0]) ?_ 2 _ rfl; (with_reducible repeat (first | refine blk_drewN ?_ _ | refine blk_drew ?_ | refine blk_alloc ?_ _)); refine blk_put (cs := #[.int .i64 ((rd_T47 y164 x110_3).f0), .int .i64 0, .int .i64 0]) ?_ 1 _ rfl; (with_reducible repeat (first | refine blk_drewN ?_ _ | refine blk_drew ?_ | refine blk_alloc ?_ _)); refine blk_put (cs := #[.int .i64 0, .int .i64 0, .int .i64 0]) ?_ 0 _ rfl; (with_reducible repeat (first | refine blk_drewN ?_ _ | refine blk_drew ?_ | refine blk_alloc ?_ _)); exact BK186.out) hb); have n5_ := Aside0.mk (below_step (by repeat (first | (with_reducible first | exact HB.out | apply below_alloc | apply pw_below_drewN | apply below_drew1 | refine below_set ?_ GE186.out) | exact HB.out)) hb); clear HO_9; clear HO_13; clear HO_108; clear BK186; clear HB; have HO_9 := n0_; have HO_13 := n1_; have HO_108 := n2_; have HO189 := n3_; have BK186 := n4_; have HB := n5_; clear n0_ n1_ n2_ n3_ n4_ n5_; clear hb ho74; obtain ⟨Ao75, co75, eo75⟩ := Kd.R_slice HO_13.out; subst eo75; obtain ⟨Ao76, co76, eo76⟩ := Kd.R_slice HO189.out; subst eo76) | ((with_reducible refine gate_callee (f := 29) rfl ?_); refine goesL_ (some 118) rfl rfl Try.func29 (by kernel_rfl) rfl #[.slice Ao75 x13_3.length co75, .slice Ao76 y187.length co76] rfl (by (try simp only [List.map_toArray, List.map_cons, List.map_nil]); first | done | rfl | (simp only [List.length_drop, List.length_take]; rfl)) ?_; (with_reducible refine (cmap_put.calls k3 (fun k_ => some k_ = (.slice Ao75 x13_3.length co75 : Value).ownBlock) (.slice Ao75 x13_3.length co75) x13_3 _ _ y187 t190 w _ ?side1 ?side2 ?side3 ?side4 A70.out).mono ?_); (case side1 => repeat (first | (with_reducible first | exact HB.out | apply below_alloc | apply pw_below_drewN | apply below_drew1 | refine below_set ?_ GE186.out) | exact HB.out)); (case side2 => exact Kd.R_tight rfl HO_13.out); (case side3 => exact Kd.C_kept_own ((Kd.R_apart' HO189.out (Kd.R_typed HO_13.out) (by decide))) (fun k_ hk_ hs_ => (hk_.2) hs_)); (case side4 => exact (Kd.R_reads' HO189.out).2.1); rintro e w77 ⟨v191, rfl, ho0, hb, hkp⟩; refine ⟨_, rfl, ?_⟩; have n0_ := Aside0.mk (Kd.R_mono (ok' := fun k_ => k_ ≠ gb186) (Kd.R_keptB ((Kd.R_apart' HO_9.out (Kd.R_typed HO_13.out) (by decide))) hkp (fun k_ hk_ hs_ => (hk_.2) hs_)) (fun k_ hk_ => hk_.1.1.2)); have n1_ := Aside0.mk (Kd.R_mono (ok' := fun k_ => k_ ≠ gb186) (Kd.R_keptB ((Kd.R_apart' HO_108.out (Kd.R_typed HO_13.out) (by decide))) hkp (fun k_ hk_ hs_ => (hk_.2) hs_)) (fun k_ hk_ => hk_.1.1.2)); have n2_ := Aside0.mk (blk_kept (by (with_reducible repeat (first | refine blk_drewN ?_ _ | refine blk_drew ?_ | refine blk_alloc ?_ _)); exact BK186.out) hkp (fun hs_ => (fun e_ => (Kd.R_ne HO_13.out BK186.out (by decide)) e_) hs_)); have n3_ := Aside0.mk (Kd.R_mono (ok' := fun k_ => True) (Kd.R_keptB ((Kd.R_apart' HO189.out (Kd.R_typed HO_13.out) (by decide))) hkp (fun k_ hk_ hs_ => (hk_.2) hs_)) (fun k_ hk_ => trivial)); have n4_ := Aside0.mk (Kd.R_mono (ok' := fun k_ => True) ho0 (fun k_ hk_ => trivial)); have n5_ := Aside0.mk (hb); clear HO_9; clear HO_108; clear BK186; clear HO189; clear HB; clear HO_13; have HO_9 := n0_; have HO_108 := n1_; have BK186 := n2_; have HO189 := n3_; have HO192 := n4_; have HB := n5_; clear n0_ n1_ n2_ n3_ n4_ n5_; (try clear hb); (try clear hkp); (try clear ho0)))
                go_roundg k3
                case measure => have := HJ35.out; have := HK2.out; have := HK3.out; omega
                case rel => exact ⟨(t190), (wrap64 (x110_3 + 1)), (by first | rfl | (simp; done) | (simp [*]; done)), H', ⟨by have := HJ35.out; have := HK2.out; have := HK3.out; omega⟩, ⟨by (with_reducible repeat (first | apply Kd.R_alloc | apply Kd.R_drewN | apply Kd.R_drew)); exact Kd.R_mono HO_9.out (fun _ hk => trivial)⟩, ⟨by (with_reducible repeat (first | apply Kd.R_alloc | apply Kd.R_drewN | apply Kd.R_drew)); exact HO192.out⟩, ⟨by (with_reducible repeat (first | apply Kd.R_alloc | apply Kd.R_drewN | apply Kd.R_drew)); exact Kd.R_mono HO_108.out (fun _ hk => trivial)⟩, ⟨by repeat (first | (with_reducible first | exact HB.out | apply below_alloc | apply pw_below_drewN | apply below_drew1 | refine below_set ?_ GE186.out) | exact HB.out)⟩⟩
               ·rw [if_neg c69] at H
                exact absurd H (by simp)
              ·rw [if_neg c68] at H
               exact absurd H (by simp)
             ·rw [if_neg c67] at H
              have c67b0 : decide (x110_3 < (y164.length : Int)) = false := decide_eq_false c67
              clear c67
              obtain ⟨y193, hy193⟩ : ∃ y_ : List Int, y_ = (([0] : List Int)) := ⟨_, rfl⟩
              replace H : ((cmap_put.f k3 x13_3 y193).bind fun t196 => (cmap_Build.l3 k3 y164 (y164.length : Int) t196 y164 (y164.length : Int) 0)) = some (r1, r2) := by first | (rw [hy193]; with_reducible exact H) | (have H2_ := (Option.bind_some _ _).symm.trans H; rw [hy193]; with_reducible exact H2_) | (have H2_ := (Option.bind_some _ _).symm.trans H; with_reducible exact H2_) | with_reducible exact H | (rw [hy193]; exact H) | exact H
              have Ny193 := Aside0.mk hy193
              clear hy193
              replace H := Option.bind_eq_some_iff.mp H
              obtain ⟨t196, A780, H⟩ := H
              (try dsimp only at H)
              have A78 := Aside0.mk A780
              clear A780
              have H' := Aside0.mk H
              clear H
              go_wp2_with (first | ((with_reducible refine gate_dst (N := 121) rfl ?_); (try (refine gate_guard (by rfl) ?_; dsimp only)); refine Kd.R_lit (Kd.int .i64) _ 3 ?hg (N := 121) ?hd (xs := ([0] : List Int)) (inner := [.int .i64 0]) (ok := fun _ => True) (okp := fun _ => True) ?hr ?hp (fun _ hk => hk) trivial (Below.refl _ _) (Nat.le_refl _) (by simp) ?_; (case hd => rfl); (case hg => rfl); (case hr => first | (go_simp; done) | (go_simp; rfl)); (case hp => exact (Reps.one (show Kd.M (Kd.int .i64) _ _ _ 0 [.int .i64 0] from rfl) (Reps.none _ _))); intro v194 w79 ho80 hb hg_ hnew_; clear hg_ hnew_; (first | rw [← Ny193.out] at ho80 | (simp only [Int.reduceToNat] at ho80; rw [← Ny193.out] at ho80)); have n0_ := Aside0.mk (Kd.R_below (by (with_reducible repeat (first | apply Kd.R_alloc | apply Kd.R_drewN | apply Kd.R_drew)); exact HO_9.out) hb); have n1_ := Aside0.mk (Kd.R_below (by (with_reducible repeat (first | apply Kd.R_alloc | apply Kd.R_drewN | apply Kd.R_drew)); exact HO_13.out) hb); have n2_ := Aside0.mk (Kd.R_below (by (with_reducible repeat (first | apply Kd.R_alloc | apply Kd.R_drewN | apply Kd.R_drew)); exact HO_108.out) hb); have n3_ := Aside0.mk (Kd.R_lower ho80 (below_size (by repeat (first | (with_reducible first | exact HB.out | apply below_alloc | apply pw_below_drewN | apply below_drew1) | exact HB.out)))); have n4_ := Aside0.mk (below_step (by repeat (first | (with_reducible first | exact HB.out | apply below_alloc | apply pw_below_drewN | apply below_drew1) | exact HB.out)) hb); clear HO_9; clear HO_13; clear HO_108; clear HB; have HO_9 := n0_; have HO_13 := n1_; have HO_108 := n2_; have HO195 := n3_; have HB := n4_; clear n0_ n1_ n2_ n3_ n4_; clear hb ho80; obtain ⟨Ao81, co81, eo81⟩ := Kd.R_slice HO_13.out; subst eo81; obtain ⟨Ao82, co82, eo82⟩ := Kd.R_slice HO195.out; subst eo82) | ((with_reducible refine gate_callee (f := 29) rfl ?_); refine goesL_ (some 122) rfl rfl Try.func29 (by kernel_rfl) rfl #[.slice Ao81 x13_3.length co81, .slice Ao82 y193.length co82] rfl (by (try simp only [List.map_toArray, List.map_cons, List.map_nil]); first | done | rfl | (simp only [List.length_drop, List.length_take]; rfl)) ?_; (with_reducible refine (cmap_put.calls k3 (fun k_ => some k_ = (.slice Ao81 x13_3.length co81 : Value).ownBlock) (.slice Ao81 x13_3.length co81) x13_3 _ _ y193 t196 w _ ?side1 ?side2 ?side3 ?side4 A78.out).mono ?_); (case side1 => repeat (first | (with_reducible first | exact HB.out | apply below_alloc | apply pw_below_drewN | apply below_drew1) | exact HB.out)); (case side2 => exact Kd.R_tight rfl HO_13.out); (case side3 => exact Kd.C_kept_own ((Kd.R_apart' HO195.out (Kd.R_typed HO_13.out) (by decide))) (fun k_ hk_ hs_ => (hk_.2) hs_)); (case side4 => exact (Kd.R_reads' HO195.out).2.1); rintro e w83 ⟨v197, rfl, ho0, hb, hkp⟩; refine ⟨_, rfl, ?_⟩; have n0_ := Aside0.mk (Kd.R_mono (ok' := fun k_ => True) (Kd.R_keptB ((Kd.R_apart' HO_9.out (Kd.R_typed HO_13.out) (by decide))) hkp (fun k_ hk_ hs_ => (hk_.2) hs_)) (fun k_ hk_ => trivial)); have n1_ := Aside0.mk (Kd.R_mono (ok' := fun k_ => True) (Kd.R_keptB ((Kd.R_apart' HO_108.out (Kd.R_typed HO_13.out) (by decide))) hkp (fun k_ hk_ hs_ => (hk_.2) hs_)) (fun k_ hk_ => trivial)); have n2_ := Aside0.mk (Kd.R_mono (ok' := fun k_ => True) (Kd.R_keptB ((Kd.R_apart' HO195.out (Kd.R_typed HO_13.out) (by decide))) hkp (fun k_ hk_ hs_ => (hk_.2) hs_)) (fun k_ hk_ => trivial)); have n3_ := Aside0.mk (Kd.R_mono (ok' := fun k_ => True) ho0 (fun k_ hk_ => trivial)); have n4_ := Aside0.mk (hb); clear HO_9; clear HO_108; clear HO195; clear HB; clear HO_13; have HO_9 := n0_; have HO_108 := n1_; have HO195 := n2_; have HO198 := n3_; have HB := n4_; clear n0_ n1_ n2_ n3_ n4_; (try clear hb); (try clear hkp); (try clear ho0)))
              go_loopg [13, 125] k3 (fun kq v13 v125 w' => ∃ (x13_4 : List Int) (x125_4 : Int), v125 = .int .i64 x125_4 ∧ Aside0 (cmap_Build.l3 kq y164 (y164.length : Int) x13_4 y164 (y164.length : Int) x125_4 = some (r1, r2)) ∧ Aside0 (kq ≤ k3) ∧ Aside0 (Kd.R k47 47 w' w.heap.size (fun _ => True) (.slice Ao48 y164.length co48) y164) ∧ Aside0 (Kd.R (Kd.int .u8) 5 w' w.heap.size (fun _ => True) v13 x13_4) ∧ Aside0 (Kd.R k47 47 w' w.heap.size (fun _ => True) (.slice Ao48 y164.length co48) y164) ∧ Aside0 (Below w.heap.size w w'))
              case atStart => exact ⟨(t196), (0), (by first | rfl | (simp; done) | (simp [*]; done)), H', ⟨Nat.le_refl _⟩, ⟨by (with_reducible repeat (first | apply Kd.R_alloc | apply Kd.R_drewN | apply Kd.R_drew)); exact HO_9.out⟩, ⟨by (with_reducible repeat (first | apply Kd.R_alloc | apply Kd.R_drewN | apply Kd.R_drew)); exact HO198.out⟩, ⟨by (with_reducible repeat (first | apply Kd.R_alloc | apply Kd.R_drewN | apply Kd.R_drew)); exact HO_9.out⟩, ⟨by repeat (first | (with_reducible first | exact HB.out | apply below_alloc | apply pw_below_drewN | apply below_drew1) | exact HB.out)⟩⟩
              case round =>
               clear H'
               try clear c1
               try clear p1
               try clear q1
               try clear hx1
               try clear c2
               try clear p2
               try clear c3
               try clear hcv3
               try clear c4
               try clear c5
               try clear c6
               try clear p6
               try clear c14
               try clear p15
               try clear q15
               try clear hx15
               try clear c16
               try clear p16
               try clear q16
               try clear hx16
               try clear p18
               try clear q18
               try clear hx18
               try clear c24
               try clear c24b0
               try clear c25
               try clear c25b0
               try clear c26
               try clear c26b0
               try clear c28
               try clear c29
               try clear hcv35
               try clear c38
               try clear c38b0
               try clear c38b1
               try clear c39
               try clear c39b0
               try clear c39b1
               try clear c41
               try clear c41b0
               try clear c42
               try clear c42b0
               try clear c43
               try clear c44
               try clear c45
               try clear c49
               try clear c49b0
               try clear p64
               try clear c67
               try clear c67b0
               try clear c68
               try clear c68b0
               try clear c69
               try clear c69b0
               try clear hcz29_0
               try clear hcz29_1
               try clear hcz29_2
               try clear hcz72_0
               try clear hcz72_1
               try clear hcz72_2
               try clear hfz29_0
               try clear hfz29_1
               try clear hfz29_2
               try clear hfz72_0
               try clear hfz72_1
               try clear hfz72_2
               try clear hx152_0
               try clear hx152_1
               try clear hx152_2
               try clear hx160_0
               try clear hx160_1
               try clear hx160_2
               try clear hx185_0
               try clear hx185_1
               try clear hx185_2
               try clear p1
               try clear p15
               try clear p152
               try clear p16
               try clear p160
               try clear p185
               try clear p2
               try clear p6
               try clear p64
               try clear q1
               try clear q15
               try clear q152
               try clear q16
               try clear q160
               try clear q185
               obtain ⟨x13_4, x125_4, rfl, HA, HK4, HO_9, HO_13, HO_123, HB⟩ := hrel
               cases gk with
               | zero => exact absurd HA.out (by simp [cmap_Build.l3])
               | succ k4 =>
                have H := HA.out
                clear HA
                simp only [cmap_Build.l3] at H
                by_cases c84 : x125_4 < (y164.length : Int)
                ·rw [if_pos c84] at H
                 have c84b0 : decide (x125_4 < (y164.length : Int)) = true := decide_eq_true c84
                 clear c84
                 by_cases c85 : 0 ≤ x125_4
                 ·rw [if_pos c85] at H
                  have c85b0 : decide (0 ≤ x125_4) = true := decide_eq_true c85
                  clear c85
                  by_cases c86 : x125_4 < (y164.length : Int)
                  ·rw [if_pos c86] at H
                   have c86b0 : decide (x125_4 < (y164.length : Int)) = true := decide_eq_true c86
                   clear c86
                   obtain ⟨y201, hy201⟩ : ∃ y_ : List Int, y_ = (([(rd_T47 y164 x125_4).f0] : List Int)) := ⟨_, rfl⟩
                   replace H : ((cmap_put.f k4 x13_4 y201).bind fun t204 => (cmap_Build.l3 k4 y164 (y164.length : Int) t204 y164 (y164.length : Int) (wrap64 (x125_4 + 1)))) = some (r1, r2) := by first | (rw [hy201]; with_reducible exact H) | (have H2_ := (Option.bind_some _ _).symm.trans H; rw [hy201]; with_reducible exact H2_) | (have H2_ := (Option.bind_some _ _).symm.trans H; with_reducible exact H2_) | with_reducible exact H | (rw [hy201]; exact H) | exact H
                   have Ny201 := Aside0.mk hy201
                   clear hy201
                   replace H := Option.bind_eq_some_iff.mp H
                   obtain ⟨t204, A870, H⟩ := H
                   (try dsimp only at H)
                   have A87 := Aside0.mk A870
                   clear A870
                   have H' := Aside0.mk H
                   clear H
                   have p199 : 0 ≤ (x125_4 : Int) := of_decide_eq_true (by first | (with_reducible assumption) | assumption)
                   have q199 : x125_4 < (y164.length : Int) := of_decide_eq_true (by first | (with_reducible assumption) | assumption)
                   obtain ⟨ad199, e199, hx199_0, hx199_1, hx199_2⟩ := at_T47 (Kd.R_reads' HO_123.out).2.2 x125_4 p199 q199
                   cases e199
                   replace p199 := eq_true p199
                   replace q199 := eq_true q199
                   go_wp2_with (first | ((with_reducible refine gate_dst (N := 17) rfl ?_); (try (refine gate_guard (by rfl) ?_; dsimp only)); refine box_event ?hg (N := 17) ?hd (cs := #[.int .i64 0, .int .i64 0, .int .i64 0]) (t := 47) ?hr ?_; (case hd => rfl); (case hg => rfl); (case hr => first | (go_simp; done) | (go_simp; rfl)); intro gb200 hg w88 hbox hb; have n0_ := Aside0.mk (Kd.R_below (Kd.R_elderB (by (with_reducible repeat (first | apply Kd.R_alloc | apply Kd.R_drewN | apply Kd.R_drew)); exact HO_9.out) gb200 (Nat.le_of_eq hg.symm)) hb); have n1_ := Aside0.mk (Kd.R_below (by (with_reducible repeat (first | apply Kd.R_alloc | apply Kd.R_drewN | apply Kd.R_drew)); exact HO_13.out) hb); have n2_ := Aside0.mk (Kd.R_below (Kd.R_elderB (by (with_reducible repeat (first | apply Kd.R_alloc | apply Kd.R_drewN | apply Kd.R_drew)); exact HO_123.out) gb200 (Nat.le_of_eq hg.symm)) hb); have n3_ := Aside0.mk (below_step (by repeat (first | (with_reducible first | exact HB.out | apply below_alloc | apply pw_below_drewN | apply below_drew1) | exact HB.out)) hb); have n4_ := Aside0.mk (hbox); have n5_ := Aside0.mk ((by rw [hg]; exact (below_size (by repeat (first | (with_reducible first | exact HB.out | apply below_alloc | apply pw_below_drewN | apply below_drew1) | exact HB.out))) : w.heap.size ≤ gb200)); have n6_ := Aside0.mk ((by rw [hg]; exact (below_size (by repeat (first | (with_reducible first | exact HB.out | apply below_alloc | apply pw_below_drewN | apply below_drew1) | exact HB.out))) : w.heap.size ≤ gb200)); clear HO_9; clear HO_13; clear HO_123; clear HB; have HO_9 := n0_; have HO_13 := n1_; have HO_123 := n2_; have HB := n3_; have BK200 := n4_; have GW200 := n5_; have GE200 := n6_; clear n0_ n1_ n2_ n3_ n4_ n5_ n6_; clear hb hbox hg; have hcz89_0 : w88.cell? ⟨gb200, 0, none⟩ = some (.int .i64 0) := (blk_cell BK200.out 0).trans rfl; have hcz89_1 : w88.cell? ⟨gb200, 1, none⟩ = some (.int .i64 0) := (blk_cell BK200.out 1).trans rfl; have hcz89_2 : w88.cell? ⟨gb200, 2, none⟩ = some (.int .i64 0) := (blk_cell BK200.out 2).trans rfl; have hfz89_0 := blk_frozen BK200.out 0; have hfz89_1 := blk_frozen BK200.out 1; have hfz89_2 := blk_frozen BK200.out 2) | ((with_reducible refine gate_dst (N := 132) rfl ?_); (try (refine gate_guard (by rfl) ?_; dsimp only)); refine Kd.R_lit (Kd.int .i64) _ 3 ?hg (N := 132) ?hd (xs := ([(rd_T47 y164 x125_4).f0] : List Int)) (inner := [.int .i64 ((rd_T47 y164 x125_4).f0)]) (ok := fun _ => True) (okp := fun _ => True) ?hr ?hp (fun _ hk => hk) trivial (Below.refl _ _) (Nat.le_refl _) (by simp) ?_; (case hd => rfl); (case hg => rfl); (case hr => first | (go_simp; done) | (go_simp; rfl)); (case hp => exact (Reps.one (show Kd.M (Kd.int .i64) _ _ _ ((rd_T47 y164 x125_4).f0) [.int .i64 ((rd_T47 y164 x125_4).f0)] from rfl) (Reps.none _ _))); intro v202 w90 ho91 hb hg_ hnew_; clear hg_ hnew_; (first | rw [← Ny201.out] at ho91 | (simp only [Int.reduceToNat] at ho91; rw [← Ny201.out] at ho91)); have n0_ := Aside0.mk (Kd.R_below (by (with_reducible repeat (first | apply Kd.R_alloc | apply Kd.R_drewN | apply Kd.R_drew)); exact (Kd.R_mono (Kd.R_far (p := ⟨gb200, 2, none⟩) (Kd.R_far (p := ⟨gb200, 1, none⟩) (Kd.R_far (p := ⟨gb200, 0, none⟩) (Kd.R_mono HO_9.out (fun k_ hk => (⟨hk, hk.2⟩ : _ ∧ k_ ≠ gb200))) (fun _ hk => hk.2) (.int .i64 ((rd_T47 y164 x125_4).f0))) (fun _ hk => hk.2) (.int .i64 ((rd_T47 y164 x125_4).f1))) (fun _ hk => hk.2) (.int .i64 ((rd_T47 y164 x125_4).f2))) (fun _ h_ => h_.1))) hb); have n1_ := Aside0.mk (Kd.R_below (by (with_reducible repeat (first | apply Kd.R_alloc | apply Kd.R_drewN | apply Kd.R_drew)); exact (Kd.R_mono (Kd.R_far (p := ⟨gb200, 2, none⟩) (Kd.R_far (p := ⟨gb200, 1, none⟩) (Kd.R_far (p := ⟨gb200, 0, none⟩) (Kd.R_types HO_13.out BK200.out (by decide)) (fun _ hk => hk.2) (.int .i64 ((rd_T47 y164 x125_4).f0))) (fun _ hk => hk.2) (.int .i64 ((rd_T47 y164 x125_4).f1))) (fun _ hk => hk.2) (.int .i64 ((rd_T47 y164 x125_4).f2))) (fun _ h_ => h_.1))) hb); have n2_ := Aside0.mk (Kd.R_below (by (with_reducible repeat (first | apply Kd.R_alloc | apply Kd.R_drewN | apply Kd.R_drew)); exact (Kd.R_mono (Kd.R_far (p := ⟨gb200, 2, none⟩) (Kd.R_far (p := ⟨gb200, 1, none⟩) (Kd.R_far (p := ⟨gb200, 0, none⟩) (Kd.R_mono HO_123.out (fun k_ hk => (⟨hk, hk.2⟩ : _ ∧ k_ ≠ gb200))) (fun _ hk => hk.2) (.int .i64 ((rd_T47 y164 x125_4).f0))) (fun _ hk => hk.2) (.int .i64 ((rd_T47 y164 x125_4).f1))) (fun _ hk => hk.2) (.int .i64 ((rd_T47 y164 x125_4).f2))) (fun _ h_ => h_.1))) hb); have n3_ := Aside0.mk (Kd.R_lower ho91 (below_size (by repeat (first | (with_reducible first | exact HB.out | apply below_alloc | apply pw_below_drewN | apply below_drew1 | refine below_set ?_ GE200.out) | exact HB.out)))); have n4_ := Aside0.mk (blk_below (g := gb200) (o := .cells #[.int .i64 ((rd_T47 y164 x125_4).f0), .int .i64 ((rd_T47 y164 x125_4).f1), .int .i64 ((rd_T47 y164 x125_4).f2)] 47 (0, 0)) (by (with_reducible repeat (first | refine blk_drewN ?_ _ | refine blk_drew ?_ | refine blk_alloc ?_ _)); refine blk_put (cs := #[.int .i64 ((rd_T47 y164 x125_4).f0), .int .i64 ((rd_T47 y164 x125_4).f1), .int .i64 0]) ?_ 2 _ rfl; (with_reducible repeat (first | refine blk_drewN ?_ _ | refine blk_drew ?_ | refine blk_alloc ?_ _)); refine blk_put (cs := #[.int .i64 ((rd_T47 y164 x125_4).f0), .int .i64 0, .int .i64 0]) ?_ 1 _ rfl; (with_reducible repeat (first | refine blk_drewN ?_ _ | refine blk_drew ?_ | refine blk_alloc ?_ _)); refine blk_put (cs := #[.int .i64 0, .int .i64 0, .int .i64 0]) ?_ 0 _ rfl; (with_reducible repeat (first | refine blk_drewN ?_ _ | refine blk_drew ?_ | refine blk_alloc ?_ _)); exact BK200.out) hb); have n5_ := Aside0.mk (below_step (by repeat (first | (with_reducible first | exact HB.out | apply below_alloc | apply pw_below_drewN | apply below_drew1 | refine below_set ?_ GE200.out) | exact HB.out)) hb); clear HO_9; clear HO_13; clear HO_123; clear BK200; clear HB; have HO_9 := n0_; have HO_13 := n1_; have HO_123 := n2_; have HO203 := n3_; have BK200 := n4_; have HB := n5_; clear n0_ n1_ n2_ n3_ n4_ n5_; clear hb ho91; obtain ⟨Ao92, co92, eo92⟩ := Kd.R_slice HO_13.out; subst eo92; obtain ⟨Ao93, co93, eo93⟩ := Kd.R_slice HO203.out; subst eo93) | ((with_reducible refine gate_callee (f := 29) rfl ?_); refine goesL_ (some 133) rfl rfl Try.func29 (by kernel_rfl) rfl #[.slice Ao92 x13_4.length co92, .slice Ao93 y201.length co93] rfl (by (try simp only [List.map_toArray, List.map_cons, List.map_nil]); first | done | rfl | (simp only [List.length_drop, List.length_take]; rfl)) ?_; (with_reducible refine (cmap_put.calls k4 (fun k_ => some k_ = (.slice Ao92 x13_4.length co92 : Value).ownBlock) (.slice Ao92 x13_4.length co92) x13_4 _ _ y201 t204 w _ ?side1 ?side2 ?side3 ?side4 A87.out).mono ?_); (case side1 => repeat (first | (with_reducible first | exact HB.out | apply below_alloc | apply pw_below_drewN | apply below_drew1 | refine below_set ?_ GE200.out) | exact HB.out)); (case side2 => exact Kd.R_tight rfl HO_13.out); (case side3 => exact Kd.C_kept_own ((Kd.R_apart' HO203.out (Kd.R_typed HO_13.out) (by decide))) (fun k_ hk_ hs_ => (hk_.2) hs_)); (case side4 => exact (Kd.R_reads' HO203.out).2.1); rintro e w94 ⟨v205, rfl, ho0, hb, hkp⟩; refine ⟨_, rfl, ?_⟩; have n0_ := Aside0.mk (Kd.R_mono (ok' := fun k_ => k_ ≠ gb200) (Kd.R_keptB ((Kd.R_apart' HO_9.out (Kd.R_typed HO_13.out) (by decide))) hkp (fun k_ hk_ hs_ => (hk_.2) hs_)) (fun k_ hk_ => hk_.1.1.2)); have n1_ := Aside0.mk (Kd.R_mono (ok' := fun k_ => k_ ≠ gb200) (Kd.R_keptB ((Kd.R_apart' HO_123.out (Kd.R_typed HO_13.out) (by decide))) hkp (fun k_ hk_ hs_ => (hk_.2) hs_)) (fun k_ hk_ => hk_.1.1.2)); have n2_ := Aside0.mk (blk_kept (by (with_reducible repeat (first | refine blk_drewN ?_ _ | refine blk_drew ?_ | refine blk_alloc ?_ _)); exact BK200.out) hkp (fun hs_ => (fun e_ => (Kd.R_ne HO_13.out BK200.out (by decide)) e_) hs_)); have n3_ := Aside0.mk (Kd.R_mono (ok' := fun k_ => True) (Kd.R_keptB ((Kd.R_apart' HO203.out (Kd.R_typed HO_13.out) (by decide))) hkp (fun k_ hk_ hs_ => (hk_.2) hs_)) (fun k_ hk_ => trivial)); have n4_ := Aside0.mk (Kd.R_mono (ok' := fun k_ => True) ho0 (fun k_ hk_ => trivial)); have n5_ := Aside0.mk (hb); clear HO_9; clear HO_123; clear BK200; clear HO203; clear HB; clear HO_13; have HO_9 := n0_; have HO_123 := n1_; have BK200 := n2_; have HO203 := n3_; have HO206 := n4_; have HB := n5_; clear n0_ n1_ n2_ n3_ n4_ n5_; (try clear hb); (try clear hkp); (try clear ho0)))
                   go_roundg k4
                   case measure => have := HJ35.out; have := HK2.out; have := HK3.out; have := HK4.out; omega
                   case rel => exact ⟨(t204), (wrap64 (x125_4 + 1)), (by first | rfl | (simp; done) | (simp [*]; done)), H', ⟨by have := HJ35.out; have := HK2.out; have := HK3.out; have := HK4.out; omega⟩, ⟨by (with_reducible repeat (first | apply Kd.R_alloc | apply Kd.R_drewN | apply Kd.R_drew)); exact Kd.R_mono HO_9.out (fun _ hk => trivial)⟩, ⟨by (with_reducible repeat (first | apply Kd.R_alloc | apply Kd.R_drewN | apply Kd.R_drew)); exact HO206.out⟩, ⟨by (with_reducible repeat (first | apply Kd.R_alloc | apply Kd.R_drewN | apply Kd.R_drew)); exact Kd.R_mono HO_123.out (fun _ hk => trivial)⟩, ⟨by repeat (first | (with_reducible first | exact HB.out | apply below_alloc | apply pw_below_drewN | apply below_drew1 | refine below_set ?_ GE200.out) | exact HB.out)⟩⟩
                  ·rw [if_neg c86] at H
                   exact absurd H (by simp)
                 ·rw [if_neg c85] at H
                  exact absurd H (by simp)
                ·rw [if_neg c84] at H
                 have c84b0 : decide (x125_4 < (y164.length : Int)) = false := decide_eq_false c84
                 clear c84
                 have H' := Aside0.mk H
                 clear H
                 go_wp2
                 go_loopg [13, 137] k4 (fun kq v13 v137 w' => ∃ (x13_5 : List Int) (x137_5 : Int), v137 = .int .i64 x137_5 ∧ Aside0 (cmap_Build.l4 kq (y164.length : Int) x13_5 y164 (y164.length : Int) x137_5 = some (r1, r2)) ∧ Aside0 (kq ≤ k4) ∧ Aside0 (Kd.R (Kd.int .u8) 5 w' w.heap.size (fun _ => True) v13 x13_5) ∧ Aside0 (Kd.R k47 47 w' w.heap.size (fun _ => True) (.slice Ao48 y164.length co48) y164) ∧ Aside0 (Below w.heap.size w w'))
                 case atStart => exact ⟨(x13_4), (0), (by first | rfl | (simp; done) | (simp [*]; done)), H', ⟨Nat.le_refl _⟩, ⟨by (with_reducible repeat (first | apply Kd.R_alloc | apply Kd.R_drewN | apply Kd.R_drew)); exact HO_13.out⟩, ⟨by (with_reducible repeat (first | apply Kd.R_alloc | apply Kd.R_drewN | apply Kd.R_drew)); exact HO_9.out⟩, ⟨by repeat (first | (with_reducible first | exact HB.out | apply below_alloc | apply pw_below_drewN | apply below_drew1) | exact HB.out)⟩⟩
                 case round =>
                  clear H'
                  try clear c1
                  try clear p1
                  try clear q1
                  try clear hx1
                  try clear c2
                  try clear p2
                  try clear c3
                  try clear hcv3
                  try clear c4
                  try clear c5
                  try clear c6
                  try clear p6
                  try clear c8
                  try clear c14
                  try clear p15
                  try clear q15
                  try clear hx15
                  try clear c16
                  try clear p16
                  try clear q16
                  try clear hx16
                  try clear p18
                  try clear q18
                  try clear hx18
                  try clear p19
                  try clear q19
                  try clear hx19
                  try clear c24
                  try clear c24b0
                  try clear c25
                  try clear c25b0
                  try clear c26
                  try clear c26b0
                  try clear c28
                  try clear c29
                  try clear hcv35
                  try clear c38
                  try clear c38b0
                  try clear c38b1
                  try clear c39
                  try clear c39b0
                  try clear c39b1
                  try clear c41
                  try clear c41b0
                  try clear c42
                  try clear c42b0
                  try clear c43
                  try clear c44
                  try clear c45
                  try clear c49
                  try clear c49b0
                  try clear p64
                  try clear c67
                  try clear c67b0
                  try clear c68
                  try clear c68b0
                  try clear c69
                  try clear c69b0
                  try clear c84
                  try clear c84b0
                  try clear c85
                  try clear c85b0
                  try clear c86
                  try clear c86b0
                  try clear hcz29_0
                  try clear hcz29_1
                  try clear hcz29_2
                  try clear hcz72_0
                  try clear hcz72_1
                  try clear hcz72_2
                  try clear hcz89_0
                  try clear hcz89_1
                  try clear hcz89_2
                  try clear hfz29_0
                  try clear hfz29_1
                  try clear hfz29_2
                  try clear hfz72_0
                  try clear hfz72_1
                  try clear hfz72_2
                  try clear hfz89_0
                  try clear hfz89_1
                  try clear hfz89_2
                  try clear hx152_0
                  try clear hx152_1
                  try clear hx152_2
                  try clear hx160_0
                  try clear hx160_1
                  try clear hx160_2
                  try clear hx185_0
                  try clear hx185_1
                  try clear hx185_2
                  try clear hx199_0
                  try clear hx199_1
                  try clear hx199_2
                  try clear p1
                  try clear p15
                  try clear p152
                  try clear p16
                  try clear p160
                  try clear p18
                  try clear p185
                  try clear p199
                  try clear p2
                  try clear p6
                  try clear p64
                  try clear q1
                  try clear q15
                  try clear q152
                  try clear q16
                  try clear q160
                  try clear q18
                  try clear q185
                  try clear q199
                  obtain ⟨x13_5, x137_5, rfl, HA, HK5, HO_13, HO_135, HB⟩ := hrel
                  cases gk with
                  | zero => exact absurd HA.out (by simp [cmap_Build.l4])
                  | succ k5 =>
                   have H := HA.out
                   clear HA
                   simp only [cmap_Build.l4] at H
                   by_cases c95 : x137_5 < (y164.length : Int)
                   ·rw [if_pos c95] at H
                    have c95b0 : decide (x137_5 < (y164.length : Int)) = true := decide_eq_true c95
                    clear c95
                    by_cases c96 : 0 ≤ x137_5
                    ·rw [if_pos c96] at H
                     have c96b0 : decide (0 ≤ x137_5) = true := decide_eq_true c96
                     clear c96
                     by_cases c97 : x137_5 < (y164.length : Int)
                     ·rw [if_pos c97] at H
                      have c97b0 : decide (x137_5 < (y164.length : Int)) = true := decide_eq_true c97
                      clear c97
                      obtain ⟨y209, hy209⟩ : ∃ y_ : List Int, y_ = (([wrap64 (((rd_T47 y164 x137_5).f2) - ((rd_T47 y164 x137_5).f0))] : List Int)) := ⟨_, rfl⟩
                      replace H : ((cmap_put.f k5 x13_5 y209).bind fun t212 => (cmap_Build.l4 k5 (y164.length : Int) t212 y164 (y164.length : Int) (wrap64 (x137_5 + 1)))) = some (r1, r2) := by first | (rw [hy209]; with_reducible exact H) | (have H2_ := (Option.bind_some _ _).symm.trans H; rw [hy209]; with_reducible exact H2_) | (have H2_ := (Option.bind_some _ _).symm.trans H; with_reducible exact H2_) | with_reducible exact H | (rw [hy209]; exact H) | exact H
                      have Ny209 := Aside0.mk hy209
                      clear hy209
                      replace H := Option.bind_eq_some_iff.mp H
                      obtain ⟨t212, A980, H⟩ := H
                      (try dsimp only at H)
                      have A98 := Aside0.mk A980
                      clear A980
                      have H' := Aside0.mk H
                      clear H
                      have p207 : 0 ≤ (x137_5 : Int) := of_decide_eq_true (by first | (with_reducible assumption) | assumption)
                      have q207 : x137_5 < (y164.length : Int) := of_decide_eq_true (by first | (with_reducible assumption) | assumption)
                      obtain ⟨ad207, e207, hx207_0, hx207_1, hx207_2⟩ := at_T47 (Kd.R_reads' HO_135.out).2.2 x137_5 p207 q207
                      cases e207
                      replace p207 := eq_true p207
                      replace q207 := eq_true q207
                      go_wp2_with (first | ((with_reducible refine gate_dst (N := 19) rfl ?_); (try (refine gate_guard (by rfl) ?_; dsimp only)); refine box_event ?hg (N := 19) ?hd (cs := #[.int .i64 0, .int .i64 0, .int .i64 0]) (t := 47) ?hr ?_; (case hd => rfl); (case hg => rfl); (case hr => first | (go_simp; done) | (go_simp; rfl)); intro gb208 hg w99 hbox hb; have n0_ := Aside0.mk (Kd.R_below (by (with_reducible repeat (first | apply Kd.R_alloc | apply Kd.R_drewN | apply Kd.R_drew)); exact HO_13.out) hb); have n1_ := Aside0.mk (Kd.R_below (Kd.R_elderB (by (with_reducible repeat (first | apply Kd.R_alloc | apply Kd.R_drewN | apply Kd.R_drew)); exact HO_135.out) gb208 (Nat.le_of_eq hg.symm)) hb); have n2_ := Aside0.mk (below_step (by repeat (first | (with_reducible first | exact HB.out | apply below_alloc | apply pw_below_drewN | apply below_drew1) | exact HB.out)) hb); have n3_ := Aside0.mk (hbox); have n4_ := Aside0.mk ((by rw [hg]; exact (below_size (by repeat (first | (with_reducible first | exact HB.out | apply below_alloc | apply pw_below_drewN | apply below_drew1) | exact HB.out))) : w.heap.size ≤ gb208)); have n5_ := Aside0.mk ((by rw [hg]; exact (below_size (by repeat (first | (with_reducible first | exact HB.out | apply below_alloc | apply pw_below_drewN | apply below_drew1) | exact HB.out))) : w.heap.size ≤ gb208)); clear HO_13; clear HO_135; clear HB; have HO_13 := n0_; have HO_135 := n1_; have HB := n2_; have BK208 := n3_; have GW208 := n4_; have GE208 := n5_; clear n0_ n1_ n2_ n3_ n4_ n5_; clear hb hbox hg; have hcz100_0 : w99.cell? ⟨gb208, 0, none⟩ = some (.int .i64 0) := (blk_cell BK208.out 0).trans rfl; have hcz100_1 : w99.cell? ⟨gb208, 1, none⟩ = some (.int .i64 0) := (blk_cell BK208.out 1).trans rfl; have hcz100_2 : w99.cell? ⟨gb208, 2, none⟩ = some (.int .i64 0) := (blk_cell BK208.out 2).trans rfl; have hfz100_0 := blk_frozen BK208.out 0; have hfz100_1 := blk_frozen BK208.out 1; have hfz100_2 := blk_frozen BK208.out 2) | ((with_reducible refine gate_dst (N := 147) rfl ?_); (try (refine gate_guard (by rfl) ?_; dsimp only)); refine Kd.R_lit (Kd.int .i64) _ 3 ?hg (N := 147) ?hd (xs := ([wrap64 (((rd_T47 y164 x137_5).f2) - ((rd_T47 y164 x137_5).f0))] : List Int)) (inner := [.int .i64 (wrap64 (((rd_T47 y164 x137_5).f2) - ((rd_T47 y164 x137_5).f0)))]) (ok := fun _ => True) (okp := fun _ => True) ?hr ?hp (fun _ hk => hk) trivial (Below.refl _ _) (Nat.le_refl _) (by simp) ?_; (case hd => rfl); (case hg => rfl); (case hr => first | (go_simp; done) | (go_simp; rfl)); (case hp => exact (Reps.one (show Kd.M (Kd.int .i64) _ _ _ (wrap64 (((rd_T47 y164 x137_5).f2) - ((rd_T47 y164 x137_5).f0))) [.int .i64 (wrap64 (((rd_T47 y164 x137_5).f2) - ((rd_T47 y164 x137_5).f0)))] from rfl) (Reps.none _ _))); intro v210 w101 ho102 hb hg_ hnew_; clear hg_ hnew_; (first | rw [← Ny209.out] at ho102 | (simp only [Int.reduceToNat] at ho102; rw [← Ny209.out] at ho102)); have n0_ := Aside0.mk (Kd.R_below (by (with_reducible repeat (first | apply Kd.R_alloc | apply Kd.R_drewN | apply Kd.R_drew)); exact (Kd.R_mono (Kd.R_far (p := ⟨gb208, 2, none⟩) (Kd.R_far (p := ⟨gb208, 1, none⟩) (Kd.R_far (p := ⟨gb208, 0, none⟩) (Kd.R_types HO_13.out BK208.out (by decide)) (fun _ hk => hk.2) (.int .i64 ((rd_T47 y164 x137_5).f0))) (fun _ hk => hk.2) (.int .i64 ((rd_T47 y164 x137_5).f1))) (fun _ hk => hk.2) (.int .i64 ((rd_T47 y164 x137_5).f2))) (fun _ h_ => h_.1))) hb); have n1_ := Aside0.mk (Kd.R_below (by (with_reducible repeat (first | apply Kd.R_alloc | apply Kd.R_drewN | apply Kd.R_drew)); exact (Kd.R_mono (Kd.R_far (p := ⟨gb208, 2, none⟩) (Kd.R_far (p := ⟨gb208, 1, none⟩) (Kd.R_far (p := ⟨gb208, 0, none⟩) (Kd.R_mono HO_135.out (fun k_ hk => (⟨hk, hk.2⟩ : _ ∧ k_ ≠ gb208))) (fun _ hk => hk.2) (.int .i64 ((rd_T47 y164 x137_5).f0))) (fun _ hk => hk.2) (.int .i64 ((rd_T47 y164 x137_5).f1))) (fun _ hk => hk.2) (.int .i64 ((rd_T47 y164 x137_5).f2))) (fun _ h_ => h_.1))) hb); have n2_ := Aside0.mk (Kd.R_lower ho102 (below_size (by repeat (first | (with_reducible first | exact HB.out | apply below_alloc | apply pw_below_drewN | apply below_drew1 | refine below_set ?_ GE208.out) | exact HB.out)))); have n3_ := Aside0.mk (blk_below (g := gb208) (o := .cells #[.int .i64 ((rd_T47 y164 x137_5).f0), .int .i64 ((rd_T47 y164 x137_5).f1), .int .i64 ((rd_T47 y164 x137_5).f2)] 47 (0, 0)) (by (with_reducible repeat (first | refine blk_drewN ?_ _ | refine blk_drew ?_ | refine blk_alloc ?_ _)); refine blk_put (cs := #[.int .i64 ((rd_T47 y164 x137_5).f0), .int .i64 ((rd_T47 y164 x137_5).f1), .int .i64 0]) ?_ 2 _ rfl; (with_reducible repeat (first | refine blk_drewN ?_ _ | refine blk_drew ?_ | refine blk_alloc ?_ _)); refine blk_put (cs := #[.int .i64 ((rd_T47 y164 x137_5).f0), .int .i64 0, .int .i64 0]) ?_ 1 _ rfl; (with_reducible repeat (first | refine blk_drewN ?_ _ | refine blk_drew ?_ | refine blk_alloc ?_ _)); refine blk_put (cs := #[.int .i64 0, .int .i64 0, .int .i64 0]) ?_ 0 _ rfl; (with_reducible repeat (first | refine blk_drewN ?_ _ | refine blk_drew ?_ | refine blk_alloc ?_ _)); exact BK208.out) hb); have n4_ := Aside0.mk (below_step (by repeat (first | (with_reducible first | exact HB.out | apply below_alloc | apply pw_below_drewN | apply below_drew1 | refine below_set ?_ GE208.out) | exact HB.out)) hb); clear HO_13; clear HO_135; clear BK208; clear HB; have HO_13 := n0_; have HO_135 := n1_; have HO211 := n2_; have BK208 := n3_; have HB := n4_; clear n0_ n1_ n2_ n3_ n4_; clear hb ho102; obtain ⟨Ao103, co103, eo103⟩ := Kd.R_slice HO_13.out; subst eo103; obtain ⟨Ao104, co104, eo104⟩ := Kd.R_slice HO211.out; subst eo104) | ((with_reducible refine gate_callee (f := 29) rfl ?_); refine goesL_ (some 148) rfl rfl Try.func29 (by kernel_rfl) rfl #[.slice Ao103 x13_5.length co103, .slice Ao104 y209.length co104] rfl (by (try simp only [List.map_toArray, List.map_cons, List.map_nil]); first | done | rfl | (simp only [List.length_drop, List.length_take]; rfl)) ?_; (with_reducible refine (cmap_put.calls k5 (fun k_ => some k_ = (.slice Ao103 x13_5.length co103 : Value).ownBlock) (.slice Ao103 x13_5.length co103) x13_5 _ _ y209 t212 w _ ?side1 ?side2 ?side3 ?side4 A98.out).mono ?_); (case side1 => repeat (first | (with_reducible first | exact HB.out | apply below_alloc | apply pw_below_drewN | apply below_drew1 | refine below_set ?_ GE208.out) | exact HB.out)); (case side2 => exact Kd.R_tight rfl HO_13.out); (case side3 => exact Kd.C_kept_own ((Kd.R_apart' HO211.out (Kd.R_typed HO_13.out) (by decide))) (fun k_ hk_ hs_ => (hk_.2) hs_)); (case side4 => exact (Kd.R_reads' HO211.out).2.1); rintro e w105 ⟨v213, rfl, ho0, hb, hkp⟩; refine ⟨_, rfl, ?_⟩; have n0_ := Aside0.mk (Kd.R_mono (ok' := fun k_ => k_ ≠ gb208) (Kd.R_keptB ((Kd.R_apart' HO_135.out (Kd.R_typed HO_13.out) (by decide))) hkp (fun k_ hk_ hs_ => (hk_.2) hs_)) (fun k_ hk_ => hk_.1.1.2)); have n1_ := Aside0.mk (blk_kept (by (with_reducible repeat (first | refine blk_drewN ?_ _ | refine blk_drew ?_ | refine blk_alloc ?_ _)); exact BK208.out) hkp (fun hs_ => (fun e_ => (Kd.R_ne HO_13.out BK208.out (by decide)) e_) hs_)); have n2_ := Aside0.mk (Kd.R_mono (ok' := fun k_ => True) (Kd.R_keptB ((Kd.R_apart' HO211.out (Kd.R_typed HO_13.out) (by decide))) hkp (fun k_ hk_ hs_ => (hk_.2) hs_)) (fun k_ hk_ => trivial)); have n3_ := Aside0.mk (Kd.R_mono (ok' := fun k_ => True) ho0 (fun k_ hk_ => trivial)); have n4_ := Aside0.mk (hb); clear HO_135; clear BK208; clear HO211; clear HB; clear HO_13; have HO_135 := n0_; have BK208 := n1_; have HO211 := n2_; have HO214 := n3_; have HB := n4_; clear n0_ n1_ n2_ n3_ n4_; (try clear hb); (try clear hkp); (try clear ho0)))
                      go_roundg k5
                      case measure => have := HJ35.out; have := HK2.out; have := HK3.out; have := HK4.out; have := HK5.out; omega
                      case rel => exact ⟨(t212), (wrap64 (x137_5 + 1)), (by first | rfl | (simp; done) | (simp [*]; done)), H', ⟨by have := HJ35.out; have := HK2.out; have := HK3.out; have := HK4.out; have := HK5.out; omega⟩, ⟨by (with_reducible repeat (first | apply Kd.R_alloc | apply Kd.R_drewN | apply Kd.R_drew)); exact HO214.out⟩, ⟨by (with_reducible repeat (first | apply Kd.R_alloc | apply Kd.R_drewN | apply Kd.R_drew)); exact Kd.R_mono HO_135.out (fun _ hk => trivial)⟩, ⟨by repeat (first | (with_reducible first | exact HB.out | apply below_alloc | apply pw_below_drewN | apply below_drew1 | refine below_set ?_ GE208.out) | exact HB.out)⟩⟩
                     ·rw [if_neg c97] at H
                      exact absurd H (by simp)
                    ·rw [if_neg c96] at H
                     exact absurd H (by simp)
                   ·rw [if_neg c95] at H
                    have c95b0 : decide (x137_5 < (y164.length : Int)) = false := decide_eq_false c95
                    clear c95
                    obtain ⟨ji106, hji106⟩ : ∃ j_ : Int, (wrap64 (2 * (y164.length : Int))) = j_ := ⟨_, rfl⟩
                    replace H : (if 0 ≤ (ji106) then (if x13_5.length + (ji106 : Int).toNat < 140737488355328 then (some (strOfNums (x13_5 ++ List.replicate (ji106 : Int).toNat 0), 0)) else (none)) else (none)) = some (r1, r2) := by first | (rw [hji106] at H; exact H) | (simp only [hji106] at H ⊢; exact H)
                    have hji106w : (IntKind.i64.wrap (2 * (y164.length : Int))) = ji106 := (i64_w _).trans hji106
                    by_cases c107 : 0 ≤ (ji106)
                    ·rw [if_pos c107] at H
                     have c107b0 := eq_true c107
                     have c107b1 : decide (0 ≤ (ji106)) = true := decide_eq_true c107
                     clear c107
                     by_cases c108 : x13_5.length + (ji106 : Int).toNat < 140737488355328
                     ·rw [if_pos c108] at H
                      have LMc108 := Aside0.mk c108
                      clear c108
                      obtain ⟨y215, hy215⟩ : ∃ y_ : List Int, y_ = (x13_5 ++ List.replicate (ji106 : Int).toNat 0) := ⟨_, rfl⟩
                      replace H : (some (strOfNums y215, 0)) = some (r1, r2) := by first | (rw [hy215]; with_reducible exact H) | (have H2_ := (Option.bind_some _ _).symm.trans H; rw [hy215]; with_reducible exact H2_) | (have H2_ := (Option.bind_some _ _).symm.trans H; with_reducible exact H2_) | with_reducible exact H | (rw [hy215]; exact H) | exact H
                      have Ny215 := Aside0.mk hy215
                      clear hy215
                      simp only [Option.some.injEq, Prod.mk.injEq] at H
                      obtain ⟨rfl, rfl⟩ := H
                      go_wp2_with (first | (at_builtin; refine Kd.R_append_zeros (Kd.int .u8) (w0 := w) w.heap.size rfl (.tmp 150) (.tmp 152) 43 3 5 (.int .u8 0) 1 rfl Try.underlying43 Try.underlying3 info5 rfl (by decide) (by omega) u13 x13_5 0 (ji106 : Int) (fun _ => True) rfl rfl rfl ?aF ?aO (of_decide_eq_true (by first | (with_reducible assumption) | assumption)) ?aB ?aS ?aL ?_; (case aB => exact (by repeat (first | (with_reducible first | exact HB.out | apply below_alloc | apply pw_below_drewN | apply below_drew1) | exact HB.out))); (case aF => exact (fun _ _ => trivial)); (case aO => exact (by (with_reducible repeat (first | apply Kd.R_alloc | apply Kd.R_drewN | apply Kd.R_drew)); exact HO_13.out)); (case aS => exact (below_size (by repeat (first | (with_reducible first | exact HB.out | apply below_alloc | apply pw_below_drewN | apply below_drew1) | exact HB.out)))); (case aL => have := LMc108.out; omega); intro v216 w109 ho hb hg hat; rw [← Ny215.out] at ho; have n0_ := Aside0.mk (Kd.R_over' (by (with_reducible repeat (first | apply Kd.R_alloc | apply Kd.R_drewN | apply Kd.R_drew)); exact HO_135.out) (Kd.R_typed (by (with_reducible repeat (first | apply Kd.R_alloc | apply Kd.R_drewN | apply Kd.R_drew)); exact HO_13.out)) (by decide) hg); have n1_ := Aside0.mk (hb); have n2_ := Aside0.mk (ho); clear HO_135; clear HB; clear HO_13; have HO_135 := n0_; have HB := n1_; have HO217 := n2_; clear n0_ n1_ n2_; clear ho hb hg hat; have hcv110 := own_string (P := Try.prog) Try.underlying43 Try.underlying5 Try.underlying9 (Kd.own_of_R HO217.out)))
                      go_ret2
                      exact ⟨by first | rfl | (simp [errW_none, errW_some] <;> rfl) | (simp only [← hji106]; first | rfl | (simp [errW_none, errW_some] <;> rfl)) | (simp [*, errW_none, errW_some] <;> rfl) | (((first | rw [pw_wdiv _ _ (by omega) (by omega)] | rw [pw_wdiv' _ _ (by omega) (by omega)] | rw [Go.IntWalk.wrap64_in _ (by omega)]); repeat (first | rw [pw_wdiv _ _ (by omega) (by omega)] | rw [pw_wdiv' _ _ (by omega) (by omega)] | rw [Go.IntWalk.wrap64_in _ (by omega)])); rfl), by repeat (first | (with_reducible first | exact HB.out | apply below_alloc | apply pw_below_drewN | apply below_drew1) | exact HB.out)⟩
                     ·rw [if_neg c108] at H
                      exact absurd H (by simp)
                    ·rw [if_neg c107] at H
                     exact absurd H (by simp)
       ·rw [if_neg c45] at H
        exact absurd H (by simp)
      ·rw [if_neg c44] at H
       exact absurd H (by simp)
 ·replace c4 := Bool.eq_false_iff.mpr c4
  subst c4
  have H1 : (some ((⟨#[]⟩ : ByteArray), 110)) = some (r1, r2) := by rw [if_neg (show ¬ (false = true) by decide)] at H; exact H
  clear H
  have H := H1
  clear H1
  simp only [Option.some.injEq, Prod.mk.injEq] at H
  obtain ⟨rfl, rfl⟩ := H
  go_enter Try.func16, Try.ntmps16
  go_wp2_with (first | ((with_reducible refine gate_callee (f := 14) rfl ?_); refine goesL_ (some 21) rfl rfl Try.func14 (by kernel_rfl) rfl #[.slice A0 l0.length c0, .int .i64 4096] rfl (by (try simp only [List.map_toArray, List.map_cons, List.map_nil]); first | done | rfl | (simp only [List.length_drop, List.length_take]; rfl)) ?_; (with_reducible refine (cmap_Good.calls k _ _ l0 4096 false _ ?side1 ?side2 A3.out).mono ?_); (case side1 => repeat (first | exact HR0.out | (with_reducible refine Kd.C_alloc ?_ _) | (with_reducible refine Kd.C_drewN ?_ _) | (with_reducible refine Kd.C_drew ?_))); (case side2 => exact HC0.out); rintro e w111 ⟨rfl, hb⟩; refine ⟨_, rfl, ?_⟩; have n0_ := Aside0.mk (below_step (by repeat (first | (with_reducible first | exact HB.out | apply below_alloc | apply pw_below_drewN | apply below_drew1) | exact HB.out)) hb); clear HB; have HB := n0_; clear n0_; (try clear hb)))
  go_ret2
  exact ⟨by first | rfl | (simp [errW_none, errW_some] <;> rfl) | (simp [*, errW_none, errW_some] <;> rfl) | (((first | rw [pw_wdiv _ _ (by omega) (by omega)] | rw [pw_wdiv' _ _ (by omega) (by omega)] | rw [Go.IntWalk.wrap64_in _ (by omega)]); repeat (first | rw [pw_wdiv _ _ (by omega) (by omega)] | rw [pw_wdiv' _ _ (by omega) (by omega)] | rw [Go.IntWalk.wrap64_in _ (by omega)])); rfl), by repeat (first | (with_reducible first | exact HB.out | apply below_alloc | apply pw_below_drewN | apply below_drew1) | exact HB.out)⟩

end Go.Proofs.Ytldcgkkbmnahiaa.Px
