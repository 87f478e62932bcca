-- Lean text written by this session's own program (wip/tools/myprint.py) for this claim
import Derived.Test.YtldcgkkbmnahiaaPxx0
import Derived.Test.YtldcgkkbmnahiaaPxx3
import Derived.Test.YtldcgkkbmnahiaaPxx4
import Derived.Test.YtldcgkkbmnahiaaPxx5
import Derived.Test.YtldcgkkbmnahiaaPxx7
import Derived.Test.YtldcgkkbmnahiaaPxx21
import Derived.Test.YtldcgkkbmnahiaaPxx23
namespace Go.Proofs.Ytldcgkkbmnahiaa.Px
open Go.RowKit Go.Proofs.YtldcgkkbmnahiaaW.PrintWords Go.Proofs.YtldcgkkbmnahiaaW.PrintLast Go.Proofs.YtldcgkkbmnahiaaW.PrintMore
attribute [local go_sem] pw_max2 pw_min2 max_two min_two max_three min_three max_four min_four   -- for this text's walks alone
set_option linter.unusedVariables false
set_option linter.unusedSimpArgs false

/-! ### colophonlaw11_CmapSends: function 7 -/
mutual
def colophonlaw11_CmapSends.l0 : Nat → List Int → List Int → List Int → Int → List Int → Int → Int → Int → Int → Option (Bool)
 | 0, _, _, _, _, _, _, _, _, _ => none
 | k + 1, x3, x4, x5, x6, x7, x8, x9, x10, x11 => if x11 < (x3.length : Int) then (if x11 < (x4.length : Int) then (if x11 < (x5.length : Int) then (colophonlaw11_CmapSends.j1 k x3 x4 x5 x6 x7 x8 x9 x10 x11 (decide (x11 < 60))) else (colophonlaw11_CmapSends.j1 k x3 x4 x5 x6 x7 x8 x9 x10 x11 false)) else (colophonlaw11_CmapSends.j1 k x3 x4 x5 x6 x7 x8 x9 x10 x11 false)) else (colophonlaw11_CmapSends.j1 k x3 x4 x5 x6 x7 x8 x9 x10 x11 false)
def colophonlaw11_CmapSends.j1 : Nat → List Int → List Int → List Int → Int → List Int → Int → Int → Int → Int → Bool → Option (Bool)
 | 0, _, _, _, _, _, _, _, _, _, _ => none
 | k + 1, x3, x4, x5, x6, x7, x8, x9, x10, x11, x44 => if x44 = true then (if 0 ≤ x11 then (if x11 < (x3.length : Int) then (if (rd x3 x11) < 0 then (colophonlaw11_CmapSends.j2 k x3 x4 x5 x6 x7 x8 x9 x10 x11 true) else (if (rd x3 x11) > 20000 then (colophonlaw11_CmapSends.j2 k x3 x4 x5 x6 x7 x8 x9 x10 x11 true) else (if x11 < (x4.length : Int) then (if (rd x4 x11) < 1 then (colophonlaw11_CmapSends.j2 k x3 x4 x5 x6 x7 x8 x9 x10 x11 true) else (if (rd x4 x11) > 300 then (colophonlaw11_CmapSends.j2 k x3 x4 x5 x6 x7 x8 x9 x10 x11 true) else (if x11 < (x5.length : Int) then (if (rd x5 x11) < 0 then (colophonlaw11_CmapSends.j2 k x3 x4 x5 x6 x7 x8 x9 x10 x11 true) else (if (rd x5 x11) > 3000 then (colophonlaw11_CmapSends.j2 k x3 x4 x5 x6 x7 x8 x9 x10 x11 true) else (colophonlaw11_CmapSends.j2 k x3 x4 x5 x6 x7 x8 x9 x10 x11 (decide ((wrap64 ((wrap64 (x8 + (rd x3 x11))) + (rd x4 x11))) > 1114112))))) else (none)))) else (none)))) else (none)) else (none)) else ((colophonlaw11_four.f (wrap64 (16 + (wrap64 (12 * x10))))).bind fun t460 => (if 16 + t460.size ≤ 9223372036854775807 then ((colophonlaw11_four.f 0).bind fun t461 => (if ((⟨#[0, 0, 0, 1, 0, 0, 0, 4, 0, 0, 0, 12, 0, 12, 0, 0]⟩ : ByteArray) ++ t460).size + t461.size ≤ 9223372036854775807 then ((colophonlaw11_four.f x10).bind fun t462 => (if (((⟨#[0, 0, 0, 1, 0, 0, 0, 4, 0, 0, 0, 12, 0, 12, 0, 0]⟩ : ByteArray) ++ t460) ++ t461).size + t462.size ≤ 9223372036854775807 then (if ((((⟨#[0, 0, 0, 1, 0, 0, 0, 4, 0, 0, 0, 12, 0, 12, 0, 0]⟩ : ByteArray) ++ t460) ++ t461) ++ t462).size + (strOfNums x7).size ≤ 9223372036854775807 then ((cmap_Read.f k (((((⟨#[0, 0, 0, 1, 0, 0, 0, 4, 0, 0, 0, 12, 0, 12, 0, 0]⟩ : ByteArray) ++ t460) ++ t461) ++ t462) ++ (strOfNums x7)) 4096).bind fun bt463 => (if bt463.2 = 0 then ((cmap_Find.f k bt463.1 x6).bind fun t467 => (if t467 = x9 then ((cmap_Good.f k bt463.1 4096).bind fun t468 => (if t468 = true then ((colophonlaw11_wakes.f k).bind fun t469 => (some t469)) else (some false))) else (some false))) else (some false))) else (none)) else (none))) else (none))) else (none)))
def colophonlaw11_CmapSends.j2 : Nat → List Int → List Int → List Int → Int → List Int → Int → Int → Int → Int → Bool → Option (Bool)
 | 0, _, _, _, _, _, _, _, _, _, _ => none
 | k + 1, x3, x4, x5, x6, x7, x8, x9, x10, x11, x100 => if x100 = true then ((colophonlaw11_wakes.f k).bind fun t448 => (some t448)) else (if 0 ≤ x11 then (if x11 < (x3.length : Int) then (if x11 < (x4.length : Int) then ((colophonlaw11_four.f (wrap64 (x8 + (rd x3 x11)))).bind fun t451 => ((colophonlaw11_four.f (wrap64 ((wrap64 ((wrap64 (x8 + (rd x3 x11))) + (rd x4 x11))) - 1))).bind fun t452 => (if t451.size + t452.size ≤ 9223372036854775807 then (if x11 < (x5.length : Int) then ((colophonlaw11_four.f (rd x5 x11)).bind fun t454 => (if (t451 ++ t452).size + t454.size ≤ 9223372036854775807 then (if x7.length + ((t451 ++ t452) ++ t454).size < 140737488355328 then ((some (x7 ++ bytesOf ((t451 ++ t452) ++ t454) : List Int)).bind fun y455 => (if x6 ≥ (wrap64 (x8 + (rd x3 x11))) then (if x6 ≤ (wrap64 ((wrap64 ((wrap64 (x8 + (rd x3 x11))) + (rd x4 x11))) - 1)) then (if x6 < 55296 then (colophonlaw11_CmapSends.l0 k x3 x4 x5 x6 y455 (wrap64 ((wrap64 ((wrap64 ((wrap64 (x8 + (rd x3 x11))) + (rd x4 x11))) - 1)) + 1)) (wrap64 ((wrap64 ((rd x5 x11) + x6)) - (wrap64 (x8 + (rd x3 x11))))) (wrap64 (x10 + 1)) (wrap64 (x11 + 1))) else (if x6 > 57343 then (colophonlaw11_CmapSends.l0 k x3 x4 x5 x6 y455 (wrap64 ((wrap64 ((wrap64 ((wrap64 (x8 + (rd x3 x11))) + (rd x4 x11))) - 1)) + 1)) (wrap64 ((wrap64 ((rd x5 x11) + x6)) - (wrap64 (x8 + (rd x3 x11))))) (wrap64 (x10 + 1)) (wrap64 (x11 + 1))) else (colophonlaw11_CmapSends.l0 k x3 x4 x5 x6 y455 (wrap64 ((wrap64 ((wrap64 ((wrap64 (x8 + (rd x3 x11))) + (rd x4 x11))) - 1)) + 1)) x9 (wrap64 (x10 + 1)) (wrap64 (x11 + 1))))) else (colophonlaw11_CmapSends.l0 k x3 x4 x5 x6 y455 (wrap64 ((wrap64 ((wrap64 ((wrap64 (x8 + (rd x3 x11))) + (rd x4 x11))) - 1)) + 1)) x9 (wrap64 (x10 + 1)) (wrap64 (x11 + 1)))) else (colophonlaw11_CmapSends.l0 k x3 x4 x5 x6 y455 (wrap64 ((wrap64 ((wrap64 ((wrap64 (x8 + (rd x3 x11))) + (rd x4 x11))) - 1)) + 1)) x9 (wrap64 (x10 + 1)) (wrap64 (x11 + 1))))) else (none)) else (none))) else (none)) else (none)))) else (none)) else (none)) else (none))
end
def colophonlaw11_CmapSends.f (k : Nat) (l0_0 : List Int) (l0_1 : List Int) (l0_2 : List Int) (a0_3 : Int) : Option (Bool) := colophonlaw11_CmapSends.l0 k l0_0 l0_1 l0_2 a0_3 ([] : List Int) 0 0 0 0
theorem colophonlaw11_CmapSends.mono_l : ∀ k, (∀ y0 y1 y2 y3 y4 y5 y6 y7 y8, LeO (colophonlaw11_CmapSends.l0 k y0 y1 y2 y3 y4 y5 y6 y7 y8) (colophonlaw11_CmapSends.l0 (k + 1) y0 y1 y2 y3 y4 y5 y6 y7 y8)) ∧ (∀ y0 y1 y2 y3 y4 y5 y6 y7 y8 y9, LeO (colophonlaw11_CmapSends.j1 k y0 y1 y2 y3 y4 y5 y6 y7 y8 y9) (colophonlaw11_CmapSends.j1 (k + 1) y0 y1 y2 y3 y4 y5 y6 y7 y8 y9)) ∧ (∀ y0 y1 y2 y3 y4 y5 y6 y7 y8 y9, LeO (colophonlaw11_CmapSends.j2 k y0 y1 y2 y3 y4 y5 y6 y7 y8 y9) (colophonlaw11_CmapSends.j2 (k + 1) y0 y1 y2 y3 y4 y5 y6 y7 y8 y9))
 | 0 => ⟨fun _ _ _ _ _ _ _ _ _ r h => by simp [colophonlaw11_CmapSends.l0] at h, fun _ _ _ _ _ _ _ _ _ _ r h => by simp [colophonlaw11_CmapSends.j1] at h, fun _ _ _ _ _ _ _ _ _ _ r h => by simp [colophonlaw11_CmapSends.j2] at h⟩
 | k + 1 => by
  obtain ⟨ih0, ih1, ih2⟩ := colophonlaw11_CmapSends.mono_l k
  refine ⟨?_, ?_, ?_⟩
  ·intro y0 y1 y2 y3 y4 y5 y6 y7 y8
   unfold colophonlaw11_CmapSends.l0
   repeat' first
   | (with_reducible exact ih0 _ _ _ _ _ _ _ _ _)
   | (with_reducible exact ih1 _ _ _ _ _ _ _ _ _ _)
   | (with_reducible exact ih2 _ _ _ _ _ _ _ _ _ _)
   | (with_reducible exact cmap_Find.mono _ _ _)
   | (with_reducible exact cmap_Good.mono _ _ _)
   | (with_reducible exact cmap_Read.mono _ _ _)
   | (with_reducible exact colophonlaw11_wakes.mono _)
   | (with_reducible exact LeO.refl _)
   | (with_reducible exact LeO.none _)
   | (with_reducible refine LeO.ite ?_ ?_)
   | (with_reducible refine LeO.bind ?_ (fun _ => ?_))
   | exact ih0 _ _ _ _ _ _ _ _ _
   | exact ih1 _ _ _ _ _ _ _ _ _ _
   | exact ih2 _ _ _ _ _ _ _ _ _ _
   | exact cmap_Find.mono _ _ _
   | exact cmap_Good.mono _ _ _
   | exact cmap_Read.mono _ _ _
   | exact colophonlaw11_wakes.mono _
   | exact LeO.none _
   | refine LeO.ite ?_ ?_
   | refine LeO.bind ?_ (fun _ => ?_)
  ·intro y0 y1 y2 y3 y4 y5 y6 y7 y8 y9
   unfold colophonlaw11_CmapSends.j1
   repeat' first
   | (with_reducible exact ih0 _ _ _ _ _ _ _ _ _)
   | (with_reducible exact ih1 _ _ _ _ _ _ _ _ _ _)
   | (with_reducible exact ih2 _ _ _ _ _ _ _ _ _ _)
   | (with_reducible exact cmap_Find.mono _ _ _)
   | (with_reducible exact cmap_Good.mono _ _ _)
   | (with_reducible exact cmap_Read.mono _ _ _)
   | (with_reducible exact colophonlaw11_wakes.mono _)
   | (with_reducible exact LeO.refl _)
   | (with_reducible exact LeO.none _)
   | (with_reducible refine LeO.ite ?_ ?_)
   | (with_reducible refine LeO.bind ?_ (fun _ => ?_))
   | exact ih0 _ _ _ _ _ _ _ _ _
   | exact ih1 _ _ _ _ _ _ _ _ _ _
   | exact ih2 _ _ _ _ _ _ _ _ _ _
   | exact cmap_Find.mono _ _ _
   | exact cmap_Good.mono _ _ _
   | exact cmap_Read.mono _ _ _
   | exact colophonlaw11_wakes.mono _
   | exact LeO.none _
   | refine LeO.ite ?_ ?_
   | refine LeO.bind ?_ (fun _ => ?_)
  ·intro y0 y1 y2 y3 y4 y5 y6 y7 y8 y9
   unfold colophonlaw11_CmapSends.j2
   repeat' first
   | (with_reducible exact ih0 _ _ _ _ _ _ _ _ _)
   | (with_reducible exact ih1 _ _ _ _ _ _ _ _ _ _)
   | (with_reducible exact ih2 _ _ _ _ _ _ _ _ _ _)
   | (with_reducible exact cmap_Find.mono _ _ _)
   | (with_reducible exact cmap_Good.mono _ _ _)
   | (with_reducible exact cmap_Read.mono _ _ _)
   | (with_reducible exact colophonlaw11_wakes.mono _)
   | (with_reducible exact LeO.refl _)
   | (with_reducible exact LeO.none _)
   | (with_reducible refine LeO.ite ?_ ?_)
   | (with_reducible refine LeO.bind ?_ (fun _ => ?_))
   | exact ih0 _ _ _ _ _ _ _ _ _
   | exact ih1 _ _ _ _ _ _ _ _ _ _
   | exact ih2 _ _ _ _ _ _ _ _ _ _
   | exact cmap_Find.mono _ _ _
   | exact cmap_Good.mono _ _ _
   | exact cmap_Read.mono _ _ _
   | exact colophonlaw11_wakes.mono _
   | exact LeO.none _
   | refine LeO.ite ?_ ?_
   | refine LeO.bind ?_ (fun _ => ?_)
theorem colophonlaw11_CmapSends.mono : ∀ a0 a1 a2 a3 k, LeO (colophonlaw11_CmapSends.f k a0 a1 a2 a3) (colophonlaw11_CmapSends.f (k + 1) a0 a1 a2 a3) := by
 intro a0 a1 a2 a3 k
 obtain ⟨ih0, ih1, ih2⟩ := colophonlaw11_CmapSends.mono_l k
 unfold colophonlaw11_CmapSends.f
 repeat' first
   | (with_reducible exact ih0 _ _ _ _ _ _ _ _ _)
   | (with_reducible exact ih1 _ _ _ _ _ _ _ _ _ _)
   | (with_reducible exact ih2 _ _ _ _ _ _ _ _ _ _)
   | (with_reducible exact cmap_Find.mono _ _ _)
   | (with_reducible exact cmap_Good.mono _ _ _)
   | (with_reducible exact cmap_Read.mono _ _ _)
   | (with_reducible exact colophonlaw11_wakes.mono _)
   | (with_reducible exact LeO.refl _)
   | (with_reducible exact LeO.none _)
   | (with_reducible refine LeO.ite ?_ ?_)
   | (with_reducible refine LeO.bind ?_ (fun _ => ?_))
   | exact ih0 _ _ _ _ _ _ _ _ _
   | exact ih1 _ _ _ _ _ _ _ _ _ _
   | exact ih2 _ _ _ _ _ _ _ _ _ _
   | exact cmap_Find.mono _ _ _
   | exact cmap_Good.mono _ _ _
   | exact cmap_Read.mono _ _ _
   | exact colophonlaw11_wakes.mono _
   | exact LeO.none _
   | refine LeO.ite ?_ ?_
   | refine LeO.bind ?_ (fun _ => ?_)
def colophonlaw11_CmapSends.T1 : Bool × List (List Nat × List Nat) := (true, [([], []), ([0], [0]), ([], []), ([2], [2]), ([], []), ([4], [4]), ([], []), ([6], [6]), ([1, 0, 1], [1]), ([3, 8, 0, 1, 2, 3, 8], [3]), ([5, 9, 0, 1, 2, 3, 4, 5, 8, 9], [5]), ([7, 10, 0, 1, 2, 3, 4, 5, 6, 7, 8, 9, 10], [7])])
def colophonlaw11_CmapSends.B1 : List Nat := [0, 1, 0, 4, 0, 16, 0, 64, 3, 271, 831, 2047]
theorem colophonlaw11_CmapSends.tab1 : rtab .any (opsOf Try.f7 1) = colophonlaw11_CmapSends.T1 := by kernel_rfl
theorem colophonlaw11_CmapSends.bits1 : waitsOk colophonlaw11_CmapSends.T1.2 colophonlaw11_CmapSends.B1 = true := by kernel_rfl
def colophonlaw11_CmapSends.T7 : Bool × List (List Nat × List Nat) := (true, [([], []), ([], []), ([0, 1], [0, 1]), ([2], [2]), ([3], [3]), ([4], [4]), ([5], [5]), ([5], [5]), ([6, 7, 5], [5, 6, 7]), ([8, 5], [5, 8]), ([9, 5], [5, 9]), ([5, 10], [5, 10]), ([11, 5], [11]), ([12], [12]), ([12], [12]), ([13, 14, 12], [12, 13, 14]), ([15, 12], [12, 15]), ([16, 12], [12, 16]), ([12, 17], [12, 17]), ([18, 12], [18]), ([19], [19]), ([19], [19]), ([20, 21, 19], [19, 20, 21]), ([22, 19], [19, 22]), ([23, 19], [19, 23]), ([19, 24], [19, 24]), ([25, 19], [25]), ([26], [26]), ([26], [26]), ([27, 28, 26], [26, 27, 28]), ([29, 26], [26, 29]), ([30, 26], [26, 30]), ([26, 31], [26, 31]), ([32, 26], [32]), ([33], [33]), ([33], [33]), ([34, 35, 33], [33, 34, 35]), ([36, 33], [33, 36]), ([37, 33], [33, 37]), ([33, 38], [33, 38]), ([39, 33], [39]), ([40], [40]), ([40], [40]), ([40], [40]), ([42, 43, 40], [40, 42, 43]), ([44, 40], [40, 44]), ([41, 45, 40], [40, 41, 45]), ([40], [40]), ([40], [40]), ([47, 48, 40], [40, 47, 48]), ([49, 40], [40, 49]), ([46, 50, 40], [40, 46, 50]), ([51, 40], [40, 51]), ([40, 52], [40, 52])])
def colophonlaw11_CmapSends.B7 : List Nat := [0, 0, 3, 7, 15, 31, 63, 63, 255, 511, 1023, 2047, 4095, 8191, 8191, 32767, 65535, 131071, 262143, 524287, 1048575, 1048575, 4194303, 8388607, 16777215, 33554431, 67108863, 134217727, 134217727, 536870911, 1073741823, 2147483647, 4294967295, 8589934591, 17179869183, 17179869183, 68719476735, 137438953471, 274877906943, 549755813887, 1099511627775, 2199023255551, 2199023255551, 2199023255551, 15393162788863, 32985348833279, 70368744177663, 2199023255551, 2199023255551, 424411488321535, 987361441742847, 2251799813685247, 4503599627370495, 9007199254740991]
theorem colophonlaw11_CmapSends.tab7 : rtab .any (opsOf Try.f7 7) = colophonlaw11_CmapSends.T7 := by kernel_rfl
theorem colophonlaw11_CmapSends.bits7 : waitsOk colophonlaw11_CmapSends.T7.2 colophonlaw11_CmapSends.B7 = true := by kernel_rfl
def colophonlaw11_CmapSends.T11 : Bool × List (List Nat × List Nat) := (true, [([], []), ([], []), ([1], [1]), ([], []), ([3, 2], [3]), ([2, 4], [2, 4]), ([], []), ([], []), ([6, 7], [6, 7]), ([8], [8]), ([9, 4], [9]), ([5, 10], [5, 10]), ([0, 11, 10], [0, 11]), ([12, 12, 0, 1, 2, 3, 4, 5, 6, 7, 8, 9, 10, 11, 12], [0, 12])])
def colophonlaw11_CmapSends.B11 : List Nat := [0, 0, 2, 0, 14, 30, 0, 0, 192, 448, 990, 2046, 4095, 8191]
theorem colophonlaw11_CmapSends.tab11 : rtab .any (opsOf Try.f7 11) = colophonlaw11_CmapSends.T11 := by kernel_rfl
theorem colophonlaw11_CmapSends.bits11 : waitsOk colophonlaw11_CmapSends.T11.2 colophonlaw11_CmapSends.B11 = true := by kernel_rfl
def colophonlaw11_CmapSends.T16 : Bool × List (List Nat × List Nat) := (true, [([], []), ([0], [0]), ([1], [1]), ([2], [2]), ([3], [3]), ([3], []), ([4, 5], [4, 5]), ([], []), ([7, 5], [7]), ([6, 8], [6, 8]), ([], []), ([10], [10]), ([9, 11], [9, 11]), ([12, 8, 0, 1, 2, 3, 4, 5, 6, 7, 8, 9, 10, 11, 12], [12])])
def colophonlaw11_CmapSends.B16 : List Nat := [0, 1, 3, 7, 15, 15, 63, 0, 175, 511, 0, 1024, 4095, 8191]
theorem colophonlaw11_CmapSends.tab16 : rtab .any (opsOf Try.f7 16) = colophonlaw11_CmapSends.T16 := by kernel_rfl
theorem colophonlaw11_CmapSends.bits16 : waitsOk colophonlaw11_CmapSends.T16.2 colophonlaw11_CmapSends.B16 = true := by kernel_rfl
set_option maxHeartbeats 8000000 in
set_option maxRecDepth 100000 in
theorem colophonlaw11_CmapSends.calls (k : Nat) (A0_0 : Option Addr) (c0_0 : Nat) (l0_0 : List Int) (A0_1 : Option Addr) (c0_1 : Nat) (l0_1 : List Int) (A0_2 : Option Addr) (c0_2 : Nat) (l0_2 : List Int) (a0_3 : Int) (r : Bool) (w : World) (hr0_0 : Kd.C (Kd.int .i64) w A0_0 l0_0.length l0_0) (hc0_0 : l0_0.length ≤ c0_0) (hr0_1 : Kd.C (Kd.int .i64) w A0_1 l0_1.length l0_1) (hc0_1 : l0_1.length ≤ c0_1) (hr0_2 : Kd.C (Kd.int .i64) w A0_2 l0_2.length l0_2) (hc0_2 : l0_2.length ≤ c0_2) (h : colophonlaw11_CmapSends.f k l0_0 l0_1 l0_2 a0_3 = some r) :
  Calls Try.prog 7 #[.agg #[.slice A0_0 l0_0.length c0_0, .slice A0_1 l0_1.length c0_1, .slice A0_2 l0_2.length c0_2, .int .i64 a0_3]] w fun e w' => e = .returned (.bool r) ∧ Below w.heap.size w w' := by
 have hu42 := Try.underlying42
 have HR0_0 := Aside0.mk hr0_0
 have HC0_0 := Aside0.mk hc0_0
 clear hr0_0 hc0_0
 have HR0_1 := Aside0.mk hr0_1
 have HC0_1 := Aside0.mk hc0_1
 clear hr0_1 hc0_1
 have HR0_2 := Aside0.mk hr0_2
 have HC0_2 := Aside0.mk hc0_2
 clear hr0_2 hc0_2
 have HB := Aside0.mk (Below.refl w.heap.size w)
 have H : (colophonlaw11_CmapSends.l0 k l0_0 l0_1 l0_2 a0_3 ([] : List Int) 0 0 0 0) = some r := h
 clear h
 have H' := Aside0.mk H
 clear H
 go_enter Try.func7, Try.ntmps7
 try go_wp2_with (first | ((with_reducible refine gate_dst (N := 1) rfl ?_); (try (refine gate_guard (by rfl) ?_; dsimp only)); refine box_event ?hg (N := 1) ?hd (cs := #[.slice A0_0 l0_0.length c0_0, .slice A0_1 l0_1.length c0_1, .slice A0_2 l0_2.length c0_2, .int .i64 a0_3]) (t := 42) ?hr ?_; (case hd => rfl); (case hg => rfl); (case hr => first | (go_simp; done) | (go_simp; rfl)); intro gb439 hg w2 hbox hb; have n0_ := Aside0.mk (below_step (by repeat (first | (with_reducible first | exact HB.out | apply below_alloc | apply pw_below_drewN | apply below_drew1) | exact HB.out)) hb); have n1_ := Aside0.mk (hbox); have n2_ := Aside0.mk ((by rw [hg]; exact (below_size (by repeat (first | (with_reducible first | exact HB.out | apply below_alloc | apply pw_below_drewN | apply below_drew1) | exact HB.out))) : w.heap.size ≤ gb439)); have n3_ := Aside0.mk ((by rw [hg]; exact (below_size (by repeat (first | (with_reducible first | exact HB.out | apply below_alloc | apply pw_below_drewN | apply below_drew1) | exact HB.out))) : w.heap.size ≤ gb439)); clear HB; have HB := n0_; have BK439 := n1_; have GW439 := n2_; have GE439 := n3_; clear n0_ n1_ n2_ n3_; clear hb hbox hg))
 have hq0_ : w2.cell? ⟨gb439, 0, none⟩ = some (.slice A0_0 l0_0.length c0_0) := (blk_cell BK439.out 0).trans rfl
 have hq1_ : w2.cell? ⟨gb439, 1, none⟩ = some (.slice A0_1 l0_1.length c0_1) := (blk_cell BK439.out 1).trans rfl
 have hq2_ : w2.cell? ⟨gb439, 2, none⟩ = some (.slice A0_2 l0_2.length c0_2) := (blk_cell BK439.out 2).trans rfl
 have hq3_ : w2.cell? ⟨gb439, 3, none⟩ = some (.int .i64 a0_3) := (blk_cell BK439.out 3).trans rfl
 repeat (go_quiet (fail); try go_wp2)
 try clear hq0_; try clear hq1_; try clear hq2_; try clear hq3_
 go_loopg [7, 8, 9, 10, 11] k (fun kq v7 v8 v9 v10 v11 w' => ∃ (x7_1 : List Int) (x8_1 : Int) (x9_1 : Int) (x10_1 : Int) (x11_1 : Int), v8 = .int .i64 x8_1 ∧ v9 = .int .i64 x9_1 ∧ v10 = .int .i64 x10_1 ∧ v11 = .int .i64 x11_1 ∧ Aside0 (colophonlaw11_CmapSends.l0 kq l0_0 l0_1 l0_2 a0_3 x7_1 x8_1 x9_1 x10_1 x11_1 = some r) ∧ Aside0 (kq ≤ k) ∧ Aside0 (Kd.R (Kd.int .u8) 5 w' w.heap.size (fun _ => True) v7 x7_1) ∧ Aside0 (w'.heap[gb439]? = some (.cells #[(.slice A0_0 l0_0.length c0_0), (.slice A0_1 l0_1.length c0_1), (.slice A0_2 l0_2.length c0_2), .int .i64 a0_3] 42 (0, 0))) ∧ Aside0 (Below w.heap.size w w'))
 case atStart => exact ⟨(([] : List Int)), (0), (0), (0), (0), (by first | rfl | (simp; done) | (simp [*]; done)), (by first | rfl | (simp; done) | (simp [*]; done)), (by first | rfl | (simp; done) | (simp [*]; done)), (by first | rfl | (simp; done) | (simp [*]; done)), H', ⟨Nat.le_refl _⟩, ⟨by first | exact Kd.R_nil _ _ _ _ _ | exact Kd.N_nil _ _ _ _ _ | exact Kd.V_nil _ _ _ _ _ | exact Kd.Q_nil _ _ _ _ _ | exact Kd.S_nil _ _ _ _ _⟩, ⟨by (with_reducible repeat (first | refine blk_drewN ?_ _ | refine blk_drew ?_ | refine blk_alloc ?_ _)); exact BK439.out⟩, ⟨by repeat (first | (with_reducible first | exact HB.out | apply below_alloc | apply pw_below_drewN | apply below_drew1 | refine below_set ?_ GE439.out) | exact HB.out)⟩⟩
 case round =>
  as_aux_lemma =>
  clear H'
  try clear p2
  obtain ⟨x7_1, x8_1, x9_1, x10_1, x11_1, rfl, rfl, rfl, rfl, HA, HK1, HO_7, BK439, HB⟩ := hrel
  cases gk with
  | zero => exact absurd HA.out (by simp [colophonlaw11_CmapSends.l0])
  | succ k1 =>
   as_aux_lemma =>
   have H := HA.out
   clear HA
   simp only [colophonlaw11_CmapSends.l0] at H
   have HC4 := Aside0.mk H
   clear H
   go_upto_region 5 with (fail)
   go_cut [44] (fun v44 wc => ∃ (kq : Nat) (x44_3 : Bool), v44 = .bool x44_3 ∧ Aside0 (colophonlaw11_CmapSends.j1 kq l0_0 l0_1 l0_2 a0_3 x7_1 x8_1 x9_1 x10_1 x11_1 x44_3 = some r) ∧ Aside0 (kq ≤ k1) ∧ Aside0 (Kd.R (Kd.int .u8) 5 wc w.heap.size (fun _ => True) u7 x7_1) ∧ Aside0 (wc.heap[gb439]? = some (.cells #[(.slice A0_0 l0_0.length c0_0), (.slice A0_1 l0_1.length c0_1), (.slice A0_2 l0_2.length c0_2), .int .i64 a0_3] 42 (0, 0))) ∧ Aside0 (Below w.heap.size w wc))
   case first =>
    have H := HC4.out
    clear HC4
    by_cases c5 : x11_1 < (l0_0.length : Int)
    ·rw [if_pos c5] at H
     have c5b0 : decide (x11_1 < (l0_0.length : Int)) = true := decide_eq_true c5
     clear c5
     (first | rw [c5b0] | (simp only [i64_w, i32_w]; rw [c5b0]) | skip)
     by_cases c6 : x11_1 < (l0_1.length : Int)
     ·rw [if_pos c6] at H
      have c6b0 : decide (x11_1 < (l0_1.length : Int)) = true := decide_eq_true c6
      clear c6
      by_cases c7 : x11_1 < (l0_2.length : Int)
      ·rw [if_pos c7] at H
       have c7b0 : decide (x11_1 < (l0_2.length : Int)) = true := decide_eq_true c7
       clear c7
       have H' := Aside0.mk H
       clear H
       go_wp2
       go_meet
       case rel => exact ⟨_, (decide (x11_1 < 60)), (by first | rfl | (simp; done) | (simp [*]; done)), H', ⟨by have := HK1.out; first | omega | exact Nat.le_refl _⟩, ⟨by (with_reducible repeat (first | apply Kd.R_alloc | apply Kd.R_drewN | apply Kd.R_drew)); exact HO_7.out⟩, ⟨by (with_reducible repeat (first | refine blk_drewN ?_ _ | refine blk_drew ?_ | refine blk_alloc ?_ _)); exact BK439.out⟩, ⟨by repeat (first | (with_reducible first | exact HB.out | apply below_alloc | apply pw_below_drewN | apply below_drew1 | refine below_set ?_ GE439.out) | exact HB.out)⟩⟩
      ·rw [if_neg c7] at H
       have c7b0 : decide (x11_1 < (l0_2.length : Int)) = false := decide_eq_false c7
       clear c7
       have H' := Aside0.mk H
       clear H
       go_wp2
       go_meet
       case rel => exact ⟨_, (false), (by first | rfl | (simp; done) | (simp [*]; done)), H', ⟨by have := HK1.out; first | omega | exact Nat.le_refl _⟩, ⟨by (with_reducible repeat (first | apply Kd.R_alloc | apply Kd.R_drewN | apply Kd.R_drew)); exact HO_7.out⟩, ⟨by (with_reducible repeat (first | refine blk_drewN ?_ _ | refine blk_drew ?_ | refine blk_alloc ?_ _)); exact BK439.out⟩, ⟨by repeat (first | (with_reducible first | exact HB.out | apply below_alloc | apply pw_below_drewN | apply below_drew1 | refine below_set ?_ GE439.out) | exact HB.out)⟩⟩
     ·rw [if_neg c6] at H
      have c6b0 : decide (x11_1 < (l0_1.length : Int)) = false := decide_eq_false c6
      clear c6
      have H' := Aside0.mk H
      clear H
      go_wp2
      go_meet
      case rel => exact ⟨_, (false), (by first | rfl | (simp; done) | (simp [*]; done)), H', ⟨by have := HK1.out; first | omega | exact Nat.le_refl _⟩, ⟨by (with_reducible repeat (first | apply Kd.R_alloc | apply Kd.R_drewN | apply Kd.R_drew)); exact HO_7.out⟩, ⟨by (with_reducible repeat (first | refine blk_drewN ?_ _ | refine blk_drew ?_ | refine blk_alloc ?_ _)); exact BK439.out⟩, ⟨by repeat (first | (with_reducible first | exact HB.out | apply below_alloc | apply pw_below_drewN | apply below_drew1 | refine below_set ?_ GE439.out) | exact HB.out)⟩⟩
    ·rw [if_neg c5] at H
     have c5b0 : decide (x11_1 < (l0_0.length : Int)) = false := decide_eq_false c5
     clear c5
     (first | rw [c5b0] | (simp only [i64_w, i32_w]; rw [c5b0]) | skip)
     have H' := Aside0.mk H
     clear H
     go_wp2
     go_meet
     case rel => exact ⟨_, (false), (by first | rfl | (simp; done) | (simp [*]; done)), H', ⟨by have := HK1.out; first | omega | exact Nat.le_refl _⟩, ⟨by (with_reducible repeat (first | apply Kd.R_alloc | apply Kd.R_drewN | apply Kd.R_drew)); exact HO_7.out⟩, ⟨by (with_reducible repeat (first | refine blk_drewN ?_ _ | refine blk_drew ?_ | refine blk_alloc ?_ _)); exact BK439.out⟩, ⟨by repeat (first | (with_reducible first | exact HB.out | apply below_alloc | apply pw_below_drewN | apply below_drew1 | refine below_set ?_ GE439.out) | exact HB.out)⟩⟩
   case rest =>
    as_aux_lemma =>
    clear HC4
    try clear p2
    try clear c5
    try clear c5b0
    try clear c6
    try clear c6b0
    try clear c7
    try clear c7b0
    try clear p2
    obtain ⟨kq, x44_3, rfl, HA, HJ3, HO_7, BK439, HB⟩ := hcut
    cases kq with
    | zero => exact absurd HA.out (by simp [colophonlaw11_CmapSends.j1])
    | succ kj3 =>
     as_aux_lemma =>
     have H := HA.out
     clear HA
     simp only [colophonlaw11_CmapSends.j1] at H
     by_cases c8 : x44_3 = true
     ·as_aux_lemma =>
      subst c8
      have H1 : (if 0 ≤ x11_1 then (if x11_1 < (l0_0.length : Int) then (if (rd l0_0 x11_1) < 0 then (colophonlaw11_CmapSends.j2 kj3 l0_0 l0_1 l0_2 a0_3 x7_1 x8_1 x9_1 x10_1 x11_1 true) else (if (rd l0_0 x11_1) > 20000 then (colophonlaw11_CmapSends.j2 kj3 l0_0 l0_1 l0_2 a0_3 x7_1 x8_1 x9_1 x10_1 x11_1 true) else (if x11_1 < (l0_1.length : Int) then (if (rd l0_1 x11_1) < 1 then (colophonlaw11_CmapSends.j2 kj3 l0_0 l0_1 l0_2 a0_3 x7_1 x8_1 x9_1 x10_1 x11_1 true) else (if (rd l0_1 x11_1) > 300 then (colophonlaw11_CmapSends.j2 kj3 l0_0 l0_1 l0_2 a0_3 x7_1 x8_1 x9_1 x10_1 x11_1 true) else (if x11_1 < (l0_2.length : Int) then (if (rd l0_2 x11_1) < 0 then (colophonlaw11_CmapSends.j2 kj3 l0_0 l0_1 l0_2 a0_3 x7_1 x8_1 x9_1 x10_1 x11_1 true) else (if (rd l0_2 x11_1) > 3000 then (colophonlaw11_CmapSends.j2 kj3 l0_0 l0_1 l0_2 a0_3 x7_1 x8_1 x9_1 x10_1 x11_1 true) else (colophonlaw11_CmapSends.j2 kj3 l0_0 l0_1 l0_2 a0_3 x7_1 x8_1 x9_1 x10_1 x11_1 (decide ((wrap64 ((wrap64 (x8_1 + (rd l0_0 x11_1))) + (rd l0_1 x11_1))) > 1114112))))) else (none)))) else (none)))) else (none)) else (none)) = some r := by rw [if_pos rfl] at H; exact H
      clear H
      have H := H1
      clear H1
      have HC9 := Aside0.mk H
      clear H
      go_upto_region 7 with (fail)
      go_cut [100] (fun v100 wc => ∃ (kq : Nat) (x100_8 : Bool), v100 = .bool x100_8 ∧ Aside0 (colophonlaw11_CmapSends.j2 kq l0_0 l0_1 l0_2 a0_3 x7_1 x8_1 x9_1 x10_1 x11_1 x100_8 = some r) ∧ Aside0 (kq ≤ kj3) ∧ Aside0 (Kd.R (Kd.int .u8) 5 wc w.heap.size (fun _ => True) u7 x7_1) ∧ Aside0 (wc.heap[gb439]? = some (.cells #[(.slice A0_0 l0_0.length c0_0), (.slice A0_1 l0_1.length c0_1), (.slice A0_2 l0_2.length c0_2), .int .i64 a0_3] 42 (0, 0))) ∧ Aside0 (Below w.heap.size w wc))
      case first =>
       as_aux_lemma =>
       have H := HC9.out
       clear HC9
       by_cases c10 : 0 ≤ x11_1
       ·as_aux_lemma =>
        rw [if_pos c10] at H
        have c10b0 : decide (0 ≤ x11_1) = true := decide_eq_true c10
        clear c10
        (first | rw [c10b0] | (simp only [i64_w, i32_w]; rw [c10b0]) | skip)
        by_cases c11 : x11_1 < (l0_0.length : Int)
        ·as_aux_lemma =>
         rw [if_pos c11] at H
         have c11b0 : decide (x11_1 < (l0_0.length : Int)) = true := decide_eq_true c11
         clear c11
         by_cases c12 : (rd l0_0 x11_1) < 0
         ·rw [if_pos c12] at H
          have c12b0 : decide ((rd l0_0 x11_1) < 0) = true := decide_eq_true c12
          clear c12
          have H' := Aside0.mk H
          clear H
          try go_wp2
          have p440 : 0 ≤ (x11_1 : Int) := of_decide_eq_true (by first | (with_reducible assumption) | assumption)
          have q440 : x11_1 < (l0_0.length : Int) := of_decide_eq_true (by first | (with_reducible assumption) | assumption)
          obtain ⟨ad440, e440, hx440_0⟩ := Kd.at_int HR0_0.out x11_1 p440 q440
          have hw440_0 := hx440_0
          cases e440
          replace hx440_0 := (HB.out.cell (World.block_lt_of_cell? w _ hx440_0)).trans hx440_0
          replace p440 := eq_true p440
          replace q440 := eq_true q440
          have hq0_ : wc.cell? (ad440.add (x11_1).toNat) = some (.int .i64 (rd l0_0 x11_1)) := ((HB.out.cell (World.block_lt_of_cell? w _ hw440_0)).trans hw440_0)
          repeat (go_quiet (fail); try go_wp2)
          try clear hq0_
          go_meet
          case rel => exact ⟨_, (true), (by first | rfl | (simp; done) | (simp [*]; done)), H', ⟨by have := HK1.out; have := HJ3.out; first | omega | exact Nat.le_refl _⟩, ⟨by (with_reducible repeat (first | apply Kd.R_alloc | apply Kd.R_drewN | apply Kd.R_drew)); exact HO_7.out⟩, ⟨by (with_reducible repeat (first | refine blk_drewN ?_ _ | refine blk_drew ?_ | refine blk_alloc ?_ _)); exact BK439.out⟩, ⟨by repeat (first | (with_reducible first | exact HB.out | apply below_alloc | apply pw_below_drewN | apply below_drew1 | refine below_set ?_ GE439.out) | exact HB.out)⟩⟩
         ·as_aux_lemma =>
          rw [if_neg c12] at H
          have c12b0 : decide ((rd l0_0 x11_1) < 0) = false := decide_eq_false c12
          clear c12
          by_cases c14 : (rd l0_0 x11_1) > 20000
          ·rw [if_pos c14] at H
           have c14b0 : decide (20000 < (rd l0_0 x11_1)) = true := decide_eq_true c14
           clear c14
           have H' := Aside0.mk H
           clear H
           try go_wp2
           have p440 : 0 ≤ (x11_1 : Int) := of_decide_eq_true (by first | (with_reducible assumption) | assumption)
           have q440 : x11_1 < (l0_0.length : Int) := of_decide_eq_true (by first | (with_reducible assumption) | assumption)
           obtain ⟨ad440, e440, hx440_0⟩ := Kd.at_int HR0_0.out x11_1 p440 q440
           have hw440_0 := hx440_0
           cases e440
           replace hx440_0 := (HB.out.cell (World.block_lt_of_cell? w _ hx440_0)).trans hx440_0
           replace p440 := eq_true p440
           replace q440 := eq_true q440
           have p441 : 0 ≤ (x11_1 : Int) := of_decide_eq_true (by first | (with_reducible assumption) | assumption)
           have q441 : x11_1 < (l0_0.length : Int) := of_decide_eq_true (by first | (with_reducible assumption) | assumption)
           obtain ⟨ad441, e441, hx441_0⟩ := Kd.at_int HR0_0.out x11_1 p441 q441
           have hw441_0 := hx441_0
           obtain rfl : ad440 = ad441 := (by injection e441)
           replace hx441_0 := (HB.out.cell (World.block_lt_of_cell? w _ hx441_0)).trans hx441_0
           replace p441 := eq_true p441
           replace q441 := eq_true q441
           have hq0_ : wc.cell? (ad440.add (x11_1).toNat) = some (.int .i64 (rd l0_0 x11_1)) := ((HB.out.cell (World.block_lt_of_cell? w _ hw440_0)).trans hw440_0)
           have hq1_ : wc.cell? (ad440.add (x11_1).toNat) = some (.int .i64 (rd l0_0 x11_1)) := ((HB.out.cell (World.block_lt_of_cell? w _ hw441_0)).trans hw441_0)
           repeat (go_quiet (fail); try go_wp2)
           try clear hq0_; try clear hq1_
           go_meet
           case rel => exact ⟨_, (true), (by first | rfl | (simp; done) | (simp [*]; done)), H', ⟨by have := HK1.out; have := HJ3.out; first | omega | exact Nat.le_refl _⟩, ⟨by (with_reducible repeat (first | apply Kd.R_alloc | apply Kd.R_drewN | apply Kd.R_drew)); exact HO_7.out⟩, ⟨by (with_reducible repeat (first | refine blk_drewN ?_ _ | refine blk_drew ?_ | refine blk_alloc ?_ _)); exact BK439.out⟩, ⟨by repeat (first | (with_reducible first | exact HB.out | apply below_alloc | apply pw_below_drewN | apply below_drew1 | refine below_set ?_ GE439.out) | exact HB.out)⟩⟩
          ·as_aux_lemma =>
           rw [if_neg c14] at H
           have c14b0 : decide (20000 < (rd l0_0 x11_1)) = false := decide_eq_false c14
           clear c14
           by_cases c16 : x11_1 < (l0_1.length : Int)
           ·as_aux_lemma =>
            rw [if_pos c16] at H
            have c16b0 : decide (x11_1 < (l0_1.length : Int)) = true := decide_eq_true c16
            clear c16
            by_cases c17 : (rd l0_1 x11_1) < 1
            ·rw [if_pos c17] at H
             have c17b0 : decide ((rd l0_1 x11_1) < 1) = true := decide_eq_true c17
             clear c17
             have H' := Aside0.mk H
             clear H
             try go_wp2
             have p440 : 0 ≤ (x11_1 : Int) := of_decide_eq_true (by first | (with_reducible assumption) | assumption)
             have q440 : x11_1 < (l0_0.length : Int) := of_decide_eq_true (by first | (with_reducible assumption) | assumption)
             obtain ⟨ad440, e440, hx440_0⟩ := Kd.at_int HR0_0.out x11_1 p440 q440
             have hw440_0 := hx440_0
             cases e440
             replace hx440_0 := (HB.out.cell (World.block_lt_of_cell? w _ hx440_0)).trans hx440_0
             replace p440 := eq_true p440
             replace q440 := eq_true q440
             have p441 : 0 ≤ (x11_1 : Int) := of_decide_eq_true (by first | (with_reducible assumption) | assumption)
             have q441 : x11_1 < (l0_0.length : Int) := of_decide_eq_true (by first | (with_reducible assumption) | assumption)
             obtain ⟨ad441, e441, hx441_0⟩ := Kd.at_int HR0_0.out x11_1 p441 q441
             have hw441_0 := hx441_0
             obtain rfl : ad440 = ad441 := (by injection e441)
             replace hx441_0 := (HB.out.cell (World.block_lt_of_cell? w _ hx441_0)).trans hx441_0
             replace p441 := eq_true p441
             replace q441 := eq_true q441
             have p442 : 0 ≤ (x11_1 : Int) := of_decide_eq_true (by first | (with_reducible assumption) | assumption)
             have q442 : x11_1 < (l0_1.length : Int) := of_decide_eq_true (by first | (with_reducible assumption) | assumption)
             obtain ⟨ad442, e442, hx442_0⟩ := Kd.at_int HR0_1.out x11_1 p442 q442
             have hw442_0 := hx442_0
             cases e442
             replace hx442_0 := (HB.out.cell (World.block_lt_of_cell? w _ hx442_0)).trans hx442_0
             replace p442 := eq_true p442
             replace q442 := eq_true q442
             have hq0_ : wc.cell? (ad440.add (x11_1).toNat) = some (.int .i64 (rd l0_0 x11_1)) := ((HB.out.cell (World.block_lt_of_cell? w _ hw440_0)).trans hw440_0)
             have hq1_ : wc.cell? (ad440.add (x11_1).toNat) = some (.int .i64 (rd l0_0 x11_1)) := ((HB.out.cell (World.block_lt_of_cell? w _ hw441_0)).trans hw441_0)
             have hq2_ : wc.cell? (ad442.add (x11_1).toNat) = some (.int .i64 (rd l0_1 x11_1)) := ((HB.out.cell (World.block_lt_of_cell? w _ hw442_0)).trans hw442_0)
             repeat (go_quiet (fail); try go_wp2)
             try clear hq0_; try clear hq1_; try clear hq2_
             go_meet
             case rel => exact ⟨_, (true), (by first | rfl | (simp; done) | (simp [*]; done)), H', ⟨by have := HK1.out; have := HJ3.out; first | omega | exact Nat.le_refl _⟩, ⟨by (with_reducible repeat (first | apply Kd.R_alloc | apply Kd.R_drewN | apply Kd.R_drew)); exact HO_7.out⟩, ⟨by (with_reducible repeat (first | refine blk_drewN ?_ _ | refine blk_drew ?_ | refine blk_alloc ?_ _)); exact BK439.out⟩, ⟨by repeat (first | (with_reducible first | exact HB.out | apply below_alloc | apply pw_below_drewN | apply below_drew1 | refine below_set ?_ GE439.out) | exact HB.out)⟩⟩
            ·as_aux_lemma =>
             rw [if_neg c17] at H
             have c17b0 : decide ((rd l0_1 x11_1) < 1) = false := decide_eq_false c17
             clear c17
             by_cases c19 : (rd l0_1 x11_1) > 300
             ·as_aux_lemma =>
              rw [if_pos c19] at H
              have c19b0 : decide (300 < (rd l0_1 x11_1)) = true := decide_eq_true c19
              clear c19
              have H' := Aside0.mk H
              clear H
              try go_wp2
              have p440 : 0 ≤ (x11_1 : Int) := of_decide_eq_true (by first | (with_reducible assumption) | assumption)
              have q440 : x11_1 < (l0_0.length : Int) := of_decide_eq_true (by first | (with_reducible assumption) | assumption)
              obtain ⟨ad440, e440, hx440_0⟩ := Kd.at_int HR0_0.out x11_1 p440 q440
              have hw440_0 := hx440_0
              cases e440
              replace hx440_0 := (HB.out.cell (World.block_lt_of_cell? w _ hx440_0)).trans hx440_0
              replace p440 := eq_true p440
              replace q440 := eq_true q440
              have p441 : 0 ≤ (x11_1 : Int) := of_decide_eq_true (by first | (with_reducible assumption) | assumption)
              have q441 : x11_1 < (l0_0.length : Int) := of_decide_eq_true (by first | (with_reducible assumption) | assumption)
              obtain ⟨ad441, e441, hx441_0⟩ := Kd.at_int HR0_0.out x11_1 p441 q441
              have hw441_0 := hx441_0
              obtain rfl : ad440 = ad441 := (by injection e441)
              replace hx441_0 := (HB.out.cell (World.block_lt_of_cell? w _ hx441_0)).trans hx441_0
              replace p441 := eq_true p441
              replace q441 := eq_true q441
              have p442 : 0 ≤ (x11_1 : Int) := of_decide_eq_true (by first | (with_reducible assumption) | assumption)
              have q442 : x11_1 < (l0_1.length : Int) := of_decide_eq_true (by first | (with_reducible assumption) | assumption)
              obtain ⟨ad442, e442, hx442_0⟩ := Kd.at_int HR0_1.out x11_1 p442 q442
              have hw442_0 := hx442_0
              cases e442
              replace hx442_0 := (HB.out.cell (World.block_lt_of_cell? w _ hx442_0)).trans hx442_0
              replace p442 := eq_true p442
              replace q442 := eq_true q442
              have p443 : 0 ≤ (x11_1 : Int) := of_decide_eq_true (by first | (with_reducible assumption) | assumption)
              have q443 : x11_1 < (l0_1.length : Int) := of_decide_eq_true (by first | (with_reducible assumption) | assumption)
              obtain ⟨ad443, e443, hx443_0⟩ := Kd.at_int HR0_1.out x11_1 p443 q443
              have hw443_0 := hx443_0
              obtain rfl : ad442 = ad443 := (by injection e443)
              replace hx443_0 := (HB.out.cell (World.block_lt_of_cell? w _ hx443_0)).trans hx443_0
              replace p443 := eq_true p443
              replace q443 := eq_true q443
              have hq0_ : wc.cell? (ad440.add (x11_1).toNat) = some (.int .i64 (rd l0_0 x11_1)) := ((HB.out.cell (World.block_lt_of_cell? w _ hw440_0)).trans hw440_0)
              have hq1_ : wc.cell? (ad440.add (x11_1).toNat) = some (.int .i64 (rd l0_0 x11_1)) := ((HB.out.cell (World.block_lt_of_cell? w _ hw441_0)).trans hw441_0)
              have hq2_ : wc.cell? (ad442.add (x11_1).toNat) = some (.int .i64 (rd l0_1 x11_1)) := ((HB.out.cell (World.block_lt_of_cell? w _ hw442_0)).trans hw442_0)
              have hq3_ : wc.cell? (ad442.add (x11_1).toNat) = some (.int .i64 (rd l0_1 x11_1)) := ((HB.out.cell (World.block_lt_of_cell? w _ hw443_0)).trans hw443_0)
              repeat (go_quiet (fail); try go_wp2)
              try clear hq0_; try clear hq1_; try clear hq2_; try clear hq3_
              go_meet
              case rel => exact ⟨_, (true), (by first | rfl | (simp; done) | (simp [*]; done)), H', ⟨by have := HK1.out; have := HJ3.out; first | omega | exact Nat.le_refl _⟩, ⟨by (with_reducible repeat (first | apply Kd.R_alloc | apply Kd.R_drewN | apply Kd.R_drew)); exact HO_7.out⟩, ⟨by (with_reducible repeat (first | refine blk_drewN ?_ _ | refine blk_drew ?_ | refine blk_alloc ?_ _)); exact BK439.out⟩, ⟨by repeat (first | (with_reducible first | exact HB.out | apply below_alloc | apply pw_below_drewN | apply below_drew1 | refine below_set ?_ GE439.out) | exact HB.out)⟩⟩
             ·as_aux_lemma =>
              rw [if_neg c19] at H
              have c19b0 : decide (300 < (rd l0_1 x11_1)) = false := decide_eq_false c19
              clear c19
              by_cases c21 : x11_1 < (l0_2.length : Int)
              ·as_aux_lemma =>
               rw [if_pos c21] at H
               have c21b0 : decide (x11_1 < (l0_2.length : Int)) = true := decide_eq_true c21
               clear c21
               by_cases c22 : (rd l0_2 x11_1) < 0
               ·as_aux_lemma =>
                rw [if_pos c22] at H
                have c22b0 : decide ((rd l0_2 x11_1) < 0) = true := decide_eq_true c22
                clear c22
                have H' := Aside0.mk H
                clear H
                try go_wp2
                have p440 : 0 ≤ (x11_1 : Int) := of_decide_eq_true (by first | (with_reducible assumption) | assumption)
                have q440 : x11_1 < (l0_0.length : Int) := of_decide_eq_true (by first | (with_reducible assumption) | assumption)
                obtain ⟨ad440, e440, hx440_0⟩ := Kd.at_int HR0_0.out x11_1 p440 q440
                have hw440_0 := hx440_0
                cases e440
                replace hx440_0 := (HB.out.cell (World.block_lt_of_cell? w _ hx440_0)).trans hx440_0
                replace p440 := eq_true p440
                replace q440 := eq_true q440
                have p441 : 0 ≤ (x11_1 : Int) := of_decide_eq_true (by first | (with_reducible assumption) | assumption)
                have q441 : x11_1 < (l0_0.length : Int) := of_decide_eq_true (by first | (with_reducible assumption) | assumption)
                obtain ⟨ad441, e441, hx441_0⟩ := Kd.at_int HR0_0.out x11_1 p441 q441
                have hw441_0 := hx441_0
                obtain rfl : ad440 = ad441 := (by injection e441)
                replace hx441_0 := (HB.out.cell (World.block_lt_of_cell? w _ hx441_0)).trans hx441_0
                replace p441 := eq_true p441
                replace q441 := eq_true q441
                have p442 : 0 ≤ (x11_1 : Int) := of_decide_eq_true (by first | (with_reducible assumption) | assumption)
                have q442 : x11_1 < (l0_1.length : Int) := of_decide_eq_true (by first | (with_reducible assumption) | assumption)
                obtain ⟨ad442, e442, hx442_0⟩ := Kd.at_int HR0_1.out x11_1 p442 q442
                have hw442_0 := hx442_0
                cases e442
                replace hx442_0 := (HB.out.cell (World.block_lt_of_cell? w _ hx442_0)).trans hx442_0
                replace p442 := eq_true p442
                replace q442 := eq_true q442
                have p443 : 0 ≤ (x11_1 : Int) := of_decide_eq_true (by first | (with_reducible assumption) | assumption)
                have q443 : x11_1 < (l0_1.length : Int) := of_decide_eq_true (by first | (with_reducible assumption) | assumption)
                obtain ⟨ad443, e443, hx443_0⟩ := Kd.at_int HR0_1.out x11_1 p443 q443
                have hw443_0 := hx443_0
                obtain rfl : ad442 = ad443 := (by injection e443)
                replace hx443_0 := (HB.out.cell (World.block_lt_of_cell? w _ hx443_0)).trans hx443_0
                replace p443 := eq_true p443
                replace q443 := eq_true q443
                have p444 : 0 ≤ (x11_1 : Int) := of_decide_eq_true (by first | (with_reducible assumption) | assumption)
                have q444 : x11_1 < (l0_2.length : Int) := of_decide_eq_true (by first | (with_reducible assumption) | assumption)
                obtain ⟨ad444, e444, hx444_0⟩ := Kd.at_int HR0_2.out x11_1 p444 q444
                have hw444_0 := hx444_0
                cases e444
                replace hx444_0 := (HB.out.cell (World.block_lt_of_cell? w _ hx444_0)).trans hx444_0
                replace p444 := eq_true p444
                replace q444 := eq_true q444
                have hq0_ : wc.cell? (ad440.add (x11_1).toNat) = some (.int .i64 (rd l0_0 x11_1)) := ((HB.out.cell (World.block_lt_of_cell? w _ hw440_0)).trans hw440_0)
                have hq1_ : wc.cell? (ad440.add (x11_1).toNat) = some (.int .i64 (rd l0_0 x11_1)) := ((HB.out.cell (World.block_lt_of_cell? w _ hw441_0)).trans hw441_0)
                have hq2_ : wc.cell? (ad442.add (x11_1).toNat) = some (.int .i64 (rd l0_1 x11_1)) := ((HB.out.cell (World.block_lt_of_cell? w _ hw442_0)).trans hw442_0)
                have hq3_ : wc.cell? (ad442.add (x11_1).toNat) = some (.int .i64 (rd l0_1 x11_1)) := ((HB.out.cell (World.block_lt_of_cell? w _ hw443_0)).trans hw443_0)
                have hq4_ : wc.cell? (ad444.add (x11_1).toNat) = some (.int .i64 (rd l0_2 x11_1)) := ((HB.out.cell (World.block_lt_of_cell? w _ hw444_0)).trans hw444_0)
                repeat (go_quiet (fail); try go_wp2)
                try clear hq0_; try clear hq1_; try clear hq2_; try clear hq3_; try clear hq4_
                go_meet
                case rel => exact ⟨_, (true), (by first | rfl | (simp; done) | (simp [*]; done)), H', ⟨by have := HK1.out; have := HJ3.out; first | omega | exact Nat.le_refl _⟩, ⟨by (with_reducible repeat (first | apply Kd.R_alloc | apply Kd.R_drewN | apply Kd.R_drew)); exact HO_7.out⟩, ⟨by (with_reducible repeat (first | refine blk_drewN ?_ _ | refine blk_drew ?_ | refine blk_alloc ?_ _)); exact BK439.out⟩, ⟨by repeat (first | (with_reducible first | exact HB.out | apply below_alloc | apply pw_below_drewN | apply below_drew1 | refine below_set ?_ GE439.out) | exact HB.out)⟩⟩
               ·as_aux_lemma =>
                rw [if_neg c22] at H
                have c22b0 : decide ((rd l0_2 x11_1) < 0) = false := decide_eq_false c22
                clear c22
                by_cases c24 : (rd l0_2 x11_1) > 3000
                ·as_aux_lemma =>
                 rw [if_pos c24] at H
                 have c24b0 : decide (3000 < (rd l0_2 x11_1)) = true := decide_eq_true c24
                 clear c24
                 have H' := Aside0.mk H
                 clear H
                 try go_wp2
                 have p440 : 0 ≤ (x11_1 : Int) := of_decide_eq_true (by first | (with_reducible assumption) | assumption)
                 have q440 : x11_1 < (l0_0.length : Int) := of_decide_eq_true (by first | (with_reducible assumption) | assumption)
                 obtain ⟨ad440, e440, hx440_0⟩ := Kd.at_int HR0_0.out x11_1 p440 q440
                 have hw440_0 := hx440_0
                 cases e440
                 replace hx440_0 := (HB.out.cell (World.block_lt_of_cell? w _ hx440_0)).trans hx440_0
                 replace p440 := eq_true p440
                 replace q440 := eq_true q440
                 have p441 : 0 ≤ (x11_1 : Int) := of_decide_eq_true (by first | (with_reducible assumption) | assumption)
                 have q441 : x11_1 < (l0_0.length : Int) := of_decide_eq_true (by first | (with_reducible assumption) | assumption)
                 obtain ⟨ad441, e441, hx441_0⟩ := Kd.at_int HR0_0.out x11_1 p441 q441
                 have hw441_0 := hx441_0
                 obtain rfl : ad440 = ad441 := (by injection e441)
                 replace hx441_0 := (HB.out.cell (World.block_lt_of_cell? w _ hx441_0)).trans hx441_0
                 replace p441 := eq_true p441
                 replace q441 := eq_true q441
                 have p442 : 0 ≤ (x11_1 : Int) := of_decide_eq_true (by first | (with_reducible assumption) | assumption)
                 have q442 : x11_1 < (l0_1.length : Int) := of_decide_eq_true (by first | (with_reducible assumption) | assumption)
                 obtain ⟨ad442, e442, hx442_0⟩ := Kd.at_int HR0_1.out x11_1 p442 q442
                 have hw442_0 := hx442_0
                 cases e442
                 replace hx442_0 := (HB.out.cell (World.block_lt_of_cell? w _ hx442_0)).trans hx442_0
                 replace p442 := eq_true p442
                 replace q442 := eq_true q442
                 have p443 : 0 ≤ (x11_1 : Int) := of_decide_eq_true (by first | (with_reducible assumption) | assumption)
                 have q443 : x11_1 < (l0_1.length : Int) := of_decide_eq_true (by first | (with_reducible assumption) | assumption)
                 obtain ⟨ad443, e443, hx443_0⟩ := Kd.at_int HR0_1.out x11_1 p443 q443
                 have hw443_0 := hx443_0
                 obtain rfl : ad442 = ad443 := (by injection e443)
                 replace hx443_0 := (HB.out.cell (World.block_lt_of_cell? w _ hx443_0)).trans hx443_0
                 replace p443 := eq_true p443
                 replace q443 := eq_true q443
                 have p444 : 0 ≤ (x11_1 : Int) := of_decide_eq_true (by first | (with_reducible assumption) | assumption)
                 have q444 : x11_1 < (l0_2.length : Int) := of_decide_eq_true (by first | (with_reducible assumption) | assumption)
                 obtain ⟨ad444, e444, hx444_0⟩ := Kd.at_int HR0_2.out x11_1 p444 q444
                 have hw444_0 := hx444_0
                 cases e444
                 replace hx444_0 := (HB.out.cell (World.block_lt_of_cell? w _ hx444_0)).trans hx444_0
                 replace p444 := eq_true p444
                 replace q444 := eq_true q444
                 have p445 : 0 ≤ (x11_1 : Int) := of_decide_eq_true (by first | (with_reducible assumption) | assumption)
                 have q445 : x11_1 < (l0_2.length : Int) := of_decide_eq_true (by first | (with_reducible assumption) | assumption)
                 obtain ⟨ad445, e445, hx445_0⟩ := Kd.at_int HR0_2.out x11_1 p445 q445
                 have hw445_0 := hx445_0
                 obtain rfl : ad444 = ad445 := (by injection e445)
                 replace hx445_0 := (HB.out.cell (World.block_lt_of_cell? w _ hx445_0)).trans hx445_0
                 replace p445 := eq_true p445
                 replace q445 := eq_true q445
                 have hq0_ : wc.cell? (ad440.add (x11_1).toNat) = some (.int .i64 (rd l0_0 x11_1)) := ((HB.out.cell (World.block_lt_of_cell? w _ hw440_0)).trans hw440_0)
                 have hq1_ : wc.cell? (ad440.add (x11_1).toNat) = some (.int .i64 (rd l0_0 x11_1)) := ((HB.out.cell (World.block_lt_of_cell? w _ hw441_0)).trans hw441_0)
                 have hq2_ : wc.cell? (ad442.add (x11_1).toNat) = some (.int .i64 (rd l0_1 x11_1)) := ((HB.out.cell (World.block_lt_of_cell? w _ hw442_0)).trans hw442_0)
                 have hq3_ : wc.cell? (ad442.add (x11_1).toNat) = some (.int .i64 (rd l0_1 x11_1)) := ((HB.out.cell (World.block_lt_of_cell? w _ hw443_0)).trans hw443_0)
                 have hq4_ : wc.cell? (ad444.add (x11_1).toNat) = some (.int .i64 (rd l0_2 x11_1)) := ((HB.out.cell (World.block_lt_of_cell? w _ hw444_0)).trans hw444_0)
                 have hq5_ : wc.cell? (ad444.add (x11_1).toNat) = some (.int .i64 (rd l0_2 x11_1)) := ((HB.out.cell (World.block_lt_of_cell? w _ hw445_0)).trans hw445_0)
                 repeat (go_quiet (fail); try go_wp2)
                 try clear hq0_; try clear hq1_; try clear hq2_; try clear hq3_; try clear hq4_; try clear hq5_
                 go_meet
                 case rel => exact ⟨_, (true), (by first | rfl | (simp; done) | (simp [*]; done)), H', ⟨by have := HK1.out; have := HJ3.out; first | omega | exact Nat.le_refl _⟩, ⟨by (with_reducible repeat (first | apply Kd.R_alloc | apply Kd.R_drewN | apply Kd.R_drew)); exact HO_7.out⟩, ⟨by (with_reducible repeat (first | refine blk_drewN ?_ _ | refine blk_drew ?_ | refine blk_alloc ?_ _)); exact BK439.out⟩, ⟨by repeat (first | (with_reducible first | exact HB.out | apply below_alloc | apply pw_below_drewN | apply below_drew1 | refine below_set ?_ GE439.out) | exact HB.out)⟩⟩
                ·as_aux_lemma =>
                 rw [if_neg c24] at H
                 have c24b0 : decide (3000 < (rd l0_2 x11_1)) = false := decide_eq_false c24
                 clear c24
                 have H' := Aside0.mk H
                 clear H
                 try go_wp2
                 have p440 : 0 ≤ (x11_1 : Int) := of_decide_eq_true (by first | (with_reducible assumption) | assumption)
                 have q440 : x11_1 < (l0_0.length : Int) := of_decide_eq_true (by first | (with_reducible assumption) | assumption)
                 obtain ⟨ad440, e440, hx440_0⟩ := Kd.at_int HR0_0.out x11_1 p440 q440
                 have hw440_0 := hx440_0
                 cases e440
                 replace hx440_0 := (HB.out.cell (World.block_lt_of_cell? w _ hx440_0)).trans hx440_0
                 replace p440 := eq_true p440
                 replace q440 := eq_true q440
                 have p441 : 0 ≤ (x11_1 : Int) := of_decide_eq_true (by first | (with_reducible assumption) | assumption)
                 have q441 : x11_1 < (l0_0.length : Int) := of_decide_eq_true (by first | (with_reducible assumption) | assumption)
                 obtain ⟨ad441, e441, hx441_0⟩ := Kd.at_int HR0_0.out x11_1 p441 q441
                 have hw441_0 := hx441_0
                 obtain rfl : ad440 = ad441 := (by injection e441)
                 replace hx441_0 := (HB.out.cell (World.block_lt_of_cell? w _ hx441_0)).trans hx441_0
                 replace p441 := eq_true p441
                 replace q441 := eq_true q441
                 have p442 : 0 ≤ (x11_1 : Int) := of_decide_eq_true (by first | (with_reducible assumption) | assumption)
                 have q442 : x11_1 < (l0_1.length : Int) := of_decide_eq_true (by first | (with_reducible assumption) | assumption)
                 obtain ⟨ad442, e442, hx442_0⟩ := Kd.at_int HR0_1.out x11_1 p442 q442
                 have hw442_0 := hx442_0
                 cases e442
                 replace hx442_0 := (HB.out.cell (World.block_lt_of_cell? w _ hx442_0)).trans hx442_0
                 replace p442 := eq_true p442
                 replace q442 := eq_true q442
                 have p443 : 0 ≤ (x11_1 : Int) := of_decide_eq_true (by first | (with_reducible assumption) | assumption)
                 have q443 : x11_1 < (l0_1.length : Int) := of_decide_eq_true (by first | (with_reducible assumption) | assumption)
                 obtain ⟨ad443, e443, hx443_0⟩ := Kd.at_int HR0_1.out x11_1 p443 q443
                 have hw443_0 := hx443_0
                 obtain rfl : ad442 = ad443 := (by injection e443)
                 replace hx443_0 := (HB.out.cell (World.block_lt_of_cell? w _ hx443_0)).trans hx443_0
                 replace p443 := eq_true p443
                 replace q443 := eq_true q443
                 have p444 : 0 ≤ (x11_1 : Int) := of_decide_eq_true (by first | (with_reducible assumption) | assumption)
                 have q444 : x11_1 < (l0_2.length : Int) := of_decide_eq_true (by first | (with_reducible assumption) | assumption)
                 obtain ⟨ad444, e444, hx444_0⟩ := Kd.at_int HR0_2.out x11_1 p444 q444
                 have hw444_0 := hx444_0
                 cases e444
                 replace hx444_0 := (HB.out.cell (World.block_lt_of_cell? w _ hx444_0)).trans hx444_0
                 replace p444 := eq_true p444
                 replace q444 := eq_true q444
                 have p445 : 0 ≤ (x11_1 : Int) := of_decide_eq_true (by first | (with_reducible assumption) | assumption)
                 have q445 : x11_1 < (l0_2.length : Int) := of_decide_eq_true (by first | (with_reducible assumption) | assumption)
                 obtain ⟨ad445, e445, hx445_0⟩ := Kd.at_int HR0_2.out x11_1 p445 q445
                 have hw445_0 := hx445_0
                 obtain rfl : ad444 = ad445 := (by injection e445)
                 replace hx445_0 := (HB.out.cell (World.block_lt_of_cell? w _ hx445_0)).trans hx445_0
                 replace p445 := eq_true p445
                 replace q445 := eq_true q445
                 have p446 : 0 ≤ (x11_1 : Int) := of_decide_eq_true (by first | (with_reducible assumption) | assumption)
                 have q446 : x11_1 < (l0_0.length : Int) := of_decide_eq_true (by first | (with_reducible assumption) | assumption)
                 obtain ⟨ad446, e446, hx446_0⟩ := Kd.at_int HR0_0.out x11_1 p446 q446
                 have hw446_0 := hx446_0
                 obtain rfl : ad440 = ad446 := (by injection e446)
                 replace hx446_0 := (HB.out.cell (World.block_lt_of_cell? w _ hx446_0)).trans hx446_0
                 replace p446 := eq_true p446
                 replace q446 := eq_true q446
                 have p447 : 0 ≤ (x11_1 : Int) := of_decide_eq_true (by first | (with_reducible assumption) | assumption)
                 have q447 : x11_1 < (l0_1.length : Int) := of_decide_eq_true (by first | (with_reducible assumption) | assumption)
                 obtain ⟨ad447, e447, hx447_0⟩ := Kd.at_int HR0_1.out x11_1 p447 q447
                 have hw447_0 := hx447_0
                 obtain rfl : ad442 = ad447 := (by injection e447)
                 replace hx447_0 := (HB.out.cell (World.block_lt_of_cell? w _ hx447_0)).trans hx447_0
                 replace p447 := eq_true p447
                 replace q447 := eq_true q447
                 have hq0_ : wc.cell? (ad440.add (x11_1).toNat) = some (.int .i64 (rd l0_0 x11_1)) := ((HB.out.cell (World.block_lt_of_cell? w _ hw440_0)).trans hw440_0)
                 have hq1_ : wc.cell? (ad440.add (x11_1).toNat) = some (.int .i64 (rd l0_0 x11_1)) := ((HB.out.cell (World.block_lt_of_cell? w _ hw441_0)).trans hw441_0)
                 have hq2_ : wc.cell? (ad442.add (x11_1).toNat) = some (.int .i64 (rd l0_1 x11_1)) := ((HB.out.cell (World.block_lt_of_cell? w _ hw442_0)).trans hw442_0)
                 have hq3_ : wc.cell? (ad442.add (x11_1).toNat) = some (.int .i64 (rd l0_1 x11_1)) := ((HB.out.cell (World.block_lt_of_cell? w _ hw443_0)).trans hw443_0)
                 have hq4_ : wc.cell? (ad444.add (x11_1).toNat) = some (.int .i64 (rd l0_2 x11_1)) := ((HB.out.cell (World.block_lt_of_cell? w _ hw444_0)).trans hw444_0)
                 have hq5_ : wc.cell? (ad444.add (x11_1).toNat) = some (.int .i64 (rd l0_2 x11_1)) := ((HB.out.cell (World.block_lt_of_cell? w _ hw445_0)).trans hw445_0)
                 have hq6_ : wc.cell? (ad440.add (x11_1).toNat) = some (.int .i64 (rd l0_0 x11_1)) := ((HB.out.cell (World.block_lt_of_cell? w _ hw446_0)).trans hw446_0)
                 have hq7_ : wc.cell? (ad442.add (x11_1).toNat) = some (.int .i64 (rd l0_1 x11_1)) := ((HB.out.cell (World.block_lt_of_cell? w _ hw447_0)).trans hw447_0)
                 repeat (go_quiet (fail); try go_wp2)
                 try clear hq0_; try clear hq1_; try clear hq2_; try clear hq3_; try clear hq4_; try clear hq5_; try clear hq6_; try clear hq7_
                 go_meet
                 case rel => exact ⟨_, (decide ((wrap64 ((wrap64 (x8_1 + (rd l0_0 x11_1))) + (rd l0_1 x11_1))) > 1114112)), (by first | rfl | (simp; done) | (simp [*]; done)), H', ⟨by have := HK1.out; have := HJ3.out; first | omega | exact Nat.le_refl _⟩, ⟨by (with_reducible repeat (first | apply Kd.R_alloc | apply Kd.R_drewN | apply Kd.R_drew)); exact HO_7.out⟩, ⟨by (with_reducible repeat (first | refine blk_drewN ?_ _ | refine blk_drew ?_ | refine blk_alloc ?_ _)); exact BK439.out⟩, ⟨by repeat (first | (with_reducible first | exact HB.out | apply below_alloc | apply pw_below_drewN | apply below_drew1 | refine below_set ?_ GE439.out) | exact HB.out)⟩⟩
              ·rw [if_neg c21] at H
               exact absurd H (by simp)
           ·rw [if_neg c16] at H
            exact absurd H (by simp)
        ·rw [if_neg c11] at H
         exact absurd H (by simp)
       ·rw [if_neg c10] at H
        exact absurd H (by simp)
      case rest =>
       as_aux_lemma =>
       clear HC9
       try clear c1
       try clear c2
       try clear p2
       try clear p4
       try clear q4
       try clear hx4
       try clear p6
       try clear c10
       try clear c11
       try clear c16
       try clear c21
       try clear c24
       try clear c24b0
       try clear hx440_0
       try clear hx441_0
       try clear hx442_0
       try clear hx443_0
       try clear hx444_0
       try clear hx445_0
       try clear hx446_0
       try clear hx447_0
       try clear p440
       try clear p441
       try clear p442
       try clear p443
       try clear p444
       try clear p445
       try clear p446
       try clear p447
       try clear q440
       try clear q441
       try clear q442
       try clear q443
       try clear q444
       try clear q445
       try clear q446
       try clear q447
       obtain ⟨kq, x100_8, rfl, HA, HJ8, HO_7, BK439, HB⟩ := hcut
       cases kq with
       | zero => exact absurd HA.out (by simp [colophonlaw11_CmapSends.j2])
       | succ kj8 =>
        as_aux_lemma =>
        have H := HA.out
        clear HA
        simp only [colophonlaw11_CmapSends.j2] at H
        by_cases c27 : x100_8 = true
        ·subst c27
         have H1 : ((colophonlaw11_wakes.f kj8).bind fun t448 => (some t448)) = some r := by rw [if_pos rfl] at H; exact H
         clear H
         have H := H1
         clear H1
         replace H := Option.bind_eq_some_iff.mp H
         obtain ⟨t448, A280, H⟩ := H
         (try dsimp only at H)
         have A28 := Aside0.mk A280
         clear A280
         obtain rfl := Option.some.inj H
         go_wp2_with (first | ((with_reducible refine gate_callee (f := 8) rfl ?_); refine goesL_ (some 101) rfl rfl Try.func8 (by kernel_rfl) rfl #[] rfl (by (try simp only [List.map_toArray, List.map_cons, List.map_nil]); first | done | rfl) ?_; (with_reducible refine (colophonlaw11_wakes.calls kj8  t448 _ A28.out).mono ?_); rintro e w29 ⟨rfl, hb⟩; refine ⟨_, rfl, ?_⟩; have n0_ := Aside0.mk (Kd.R_below (by (with_reducible repeat (first | apply Kd.R_alloc | apply Kd.R_drewN | apply Kd.R_drew)); exact HO_7.out) hb); have n1_ := Aside0.mk (blk_below (g := gb439) (o := .cells #[.slice A0_0 l0_0.length c0_0, .slice A0_1 l0_1.length c0_1, .slice A0_2 l0_2.length c0_2, .int .i64 a0_3] 42 (0, 0)) (by (with_reducible repeat (first | refine blk_drewN ?_ _ | refine blk_drew ?_ | refine blk_alloc ?_ _)); exact BK439.out) hb); have n2_ := Aside0.mk (below_step (by repeat (first | (with_reducible first | exact HB.out | apply below_alloc | apply pw_below_drewN | apply below_drew1 | refine below_set ?_ GE439.out) | exact HB.out)) hb); clear HO_7; clear BK439; clear HB; have HO_7 := n0_; have BK439 := n1_; have HB := n2_; clear n0_ n1_ n2_; (try clear hb)))
         go_ret
         exact ⟨by first | rfl | (simp [errW_none, errW_some] <;> rfl) | (simp [*, errW_none, errW_some] <;> rfl) | (((first | rw [pw_wdiv _ _ (by omega) (by omega)] | rw [pw_wdiv' _ _ (by omega) (by omega)] | rw [Go.IntWalk.wrap64_in _ (by omega)]); repeat (first | rw [pw_wdiv _ _ (by omega) (by omega)] | rw [pw_wdiv' _ _ (by omega) (by omega)] | rw [Go.IntWalk.wrap64_in _ (by omega)])); rfl), by repeat (first | (with_reducible first | exact HB.out | apply below_alloc | apply pw_below_drewN | apply below_drew1 | refine below_set ?_ GE439.out) | exact HB.out)⟩
        ·as_aux_lemma =>
         replace c27 := Bool.eq_false_iff.mpr c27
         subst c27
         have H1 : (if 0 ≤ x11_1 then (if x11_1 < (l0_0.length : Int) then (if x11_1 < (l0_1.length : Int) then ((colophonlaw11_four.f (wrap64 (x8_1 + (rd l0_0 x11_1)))).bind fun t451 => ((colophonlaw11_four.f (wrap64 ((wrap64 ((wrap64 (x8_1 + (rd l0_0 x11_1))) + (rd l0_1 x11_1))) - 1))).bind fun t452 => (if t451.size + t452.size ≤ 9223372036854775807 then (if x11_1 < (l0_2.length : Int) then ((colophonlaw11_four.f (rd l0_2 x11_1)).bind fun t454 => (if (t451 ++ t452).size + t454.size ≤ 9223372036854775807 then (if x7_1.length + ((t451 ++ t452) ++ t454).size < 140737488355328 then ((some (x7_1 ++ bytesOf ((t451 ++ t452) ++ t454) : List Int)).bind fun y455 => (if a0_3 ≥ (wrap64 (x8_1 + (rd l0_0 x11_1))) then (if a0_3 ≤ (wrap64 ((wrap64 ((wrap64 (x8_1 + (rd l0_0 x11_1))) + (rd l0_1 x11_1))) - 1)) then (if a0_3 < 55296 then (colophonlaw11_CmapSends.l0 kj8 l0_0 l0_1 l0_2 a0_3 y455 (wrap64 ((wrap64 ((wrap64 ((wrap64 (x8_1 + (rd l0_0 x11_1))) + (rd l0_1 x11_1))) - 1)) + 1)) (wrap64 ((wrap64 ((rd l0_2 x11_1) + a0_3)) - (wrap64 (x8_1 + (rd l0_0 x11_1))))) (wrap64 (x10_1 + 1)) (wrap64 (x11_1 + 1))) else (if a0_3 > 57343 then (colophonlaw11_CmapSends.l0 kj8 l0_0 l0_1 l0_2 a0_3 y455 (wrap64 ((wrap64 ((wrap64 ((wrap64 (x8_1 + (rd l0_0 x11_1))) + (rd l0_1 x11_1))) - 1)) + 1)) (wrap64 ((wrap64 ((rd l0_2 x11_1) + a0_3)) - (wrap64 (x8_1 + (rd l0_0 x11_1))))) (wrap64 (x10_1 + 1)) (wrap64 (x11_1 + 1))) else (colophonlaw11_CmapSends.l0 kj8 l0_0 l0_1 l0_2 a0_3 y455 (wrap64 ((wrap64 ((wrap64 ((wrap64 (x8_1 + (rd l0_0 x11_1))) + (rd l0_1 x11_1))) - 1)) + 1)) x9_1 (wrap64 (x10_1 + 1)) (wrap64 (x11_1 + 1))))) else (colophonlaw11_CmapSends.l0 kj8 l0_0 l0_1 l0_2 a0_3 y455 (wrap64 ((wrap64 ((wrap64 ((wrap64 (x8_1 + (rd l0_0 x11_1))) + (rd l0_1 x11_1))) - 1)) + 1)) x9_1 (wrap64 (x10_1 + 1)) (wrap64 (x11_1 + 1)))) else (colophonlaw11_CmapSends.l0 kj8 l0_0 l0_1 l0_2 a0_3 y455 (wrap64 ((wrap64 ((wrap64 ((wrap64 (x8_1 + (rd l0_0 x11_1))) + (rd l0_1 x11_1))) - 1)) + 1)) x9_1 (wrap64 (x10_1 + 1)) (wrap64 (x11_1 + 1))))) else (none)) else (none))) else (none)) else (none)))) else (none)) else (none)) else (none)) = some r := by rw [if_neg (show ¬ (false = true) by decide)] at H; exact H
         clear H
         have H := H1
         clear H1
         by_cases c30 : 0 ≤ x11_1
         ·as_aux_lemma =>
          rw [if_pos c30] at H
          have c30b0 : decide (0 ≤ x11_1) = true := decide_eq_true c30
          clear c30
          by_cases c31 : x11_1 < (l0_0.length : Int)
          ·as_aux_lemma =>
           rw [if_pos c31] at H
           have c31b0 : decide (x11_1 < (l0_0.length : Int)) = true := decide_eq_true c31
           clear c31
           by_cases c32 : x11_1 < (l0_1.length : Int)
           ·as_aux_lemma =>
            rw [if_pos c32] at H
            have c32b0 : decide (x11_1 < (l0_1.length : Int)) = true := decide_eq_true c32
            clear c32
            replace H := Option.bind_eq_some_iff.mp H
            obtain ⟨t451, A330, H⟩ := H
            (try dsimp only at H)
            have A33 := Aside0.mk A330
            clear A330
            replace H := Option.bind_eq_some_iff.mp H
            obtain ⟨t452, A340, H⟩ := H
            (try dsimp only at H)
            have A34 := Aside0.mk A340
            clear A340
            by_cases c35 : t451.size + t452.size ≤ 9223372036854775807
            ·as_aux_lemma =>
             rw [if_pos c35] at H
             have c35b0 := eq_true c35
             have c35b1 : decide (t451.size + t452.size ≤ 9223372036854775807) = true := decide_eq_true c35
             try have c35b2 : (9223372036854775807 < t451.size + t452.size) = False := eq_false (Nat.not_lt.2 c35)
             by_cases c36 : x11_1 < (l0_2.length : Int)
             ·as_aux_lemma =>
              rw [if_pos c36] at H
              have c36b0 : decide (x11_1 < (l0_2.length : Int)) = true := decide_eq_true c36
              clear c36
              replace H := Option.bind_eq_some_iff.mp H
              obtain ⟨t454, A370, H⟩ := H
              (try dsimp only at H)
              have A37 := Aside0.mk A370
              clear A370
              by_cases c38 : (t451 ++ t452).size + t454.size ≤ 9223372036854775807
              ·as_aux_lemma =>
               rw [if_pos c38] at H
               have c38b0 := eq_true c38
               have c38b1 : decide ((t451 ++ t452).size + t454.size ≤ 9223372036854775807) = true := decide_eq_true c38
               try (have c38b3 : (9223372036854775807 < t451.size + t452.size + t454.size) = False := eq_false (by have h_ := c38; simp only [ByteArray.size_append] at h_; exact Nat.not_lt.2 h_))
               try have c38b2 : (9223372036854775807 < (t451 ++ t452).size + t454.size) = False := eq_false (Nat.not_lt.2 c38)
               by_cases c39 : x7_1.length + ((t451 ++ t452) ++ t454).size < 140737488355328
               ·as_aux_lemma =>
                rw [if_pos c39] at H
                have LMc39 := Aside0.mk c39
                clear c39
                obtain ⟨y455, hy455⟩ : ∃ y_ : List Int, y_ = (x7_1 ++ bytesOf ((t451 ++ t452) ++ t454)) := ⟨_, rfl⟩
                replace H : (if a0_3 ≥ (wrap64 (x8_1 + (rd l0_0 x11_1))) then (if a0_3 ≤ (wrap64 ((wrap64 ((wrap64 (x8_1 + (rd l0_0 x11_1))) + (rd l0_1 x11_1))) - 1)) then (if a0_3 < 55296 then (colophonlaw11_CmapSends.l0 kj8 l0_0 l0_1 l0_2 a0_3 y455 (wrap64 ((wrap64 ((wrap64 ((wrap64 (x8_1 + (rd l0_0 x11_1))) + (rd l0_1 x11_1))) - 1)) + 1)) (wrap64 ((wrap64 ((rd l0_2 x11_1) + a0_3)) - (wrap64 (x8_1 + (rd l0_0 x11_1))))) (wrap64 (x10_1 + 1)) (wrap64 (x11_1 + 1))) else (if a0_3 > 57343 then (colophonlaw11_CmapSends.l0 kj8 l0_0 l0_1 l0_2 a0_3 y455 (wrap64 ((wrap64 ((wrap64 ((wrap64 (x8_1 + (rd l0_0 x11_1))) + (rd l0_1 x11_1))) - 1)) + 1)) (wrap64 ((wrap64 ((rd l0_2 x11_1) + a0_3)) - (wrap64 (x8_1 + (rd l0_0 x11_1))))) (wrap64 (x10_1 + 1)) (wrap64 (x11_1 + 1))) else (colophonlaw11_CmapSends.l0 kj8 l0_0 l0_1 l0_2 a0_3 y455 (wrap64 ((wrap64 ((wrap64 ((wrap64 (x8_1 + (rd l0_0 x11_1))) + (rd l0_1 x11_1))) - 1)) + 1)) x9_1 (wrap64 (x10_1 + 1)) (wrap64 (x11_1 + 1))))) else (colophonlaw11_CmapSends.l0 kj8 l0_0 l0_1 l0_2 a0_3 y455 (wrap64 ((wrap64 ((wrap64 ((wrap64 (x8_1 + (rd l0_0 x11_1))) + (rd l0_1 x11_1))) - 1)) + 1)) x9_1 (wrap64 (x10_1 + 1)) (wrap64 (x11_1 + 1)))) else (colophonlaw11_CmapSends.l0 kj8 l0_0 l0_1 l0_2 a0_3 y455 (wrap64 ((wrap64 ((wrap64 ((wrap64 (x8_1 + (rd l0_0 x11_1))) + (rd l0_1 x11_1))) - 1)) + 1)) x9_1 (wrap64 (x10_1 + 1)) (wrap64 (x11_1 + 1)))) = some r := by first | (rw [hy455]; with_reducible exact H) | (have H2_ := (Option.bind_some _ _).symm.trans H; rw [hy455]; with_reducible exact H2_) | (have H2_ := (Option.bind_some _ _).symm.trans H; with_reducible exact H2_) | with_reducible exact H | (rw [hy455]; exact H) | exact H
                have Ny455 := Aside0.mk hy455
                clear hy455
                by_cases c40 : a0_3 ≥ (wrap64 (x8_1 + (rd l0_0 x11_1)))
                ·as_aux_lemma =>
                 rw [if_pos c40] at H
                 have c40b0 : decide ((wrap64 (x8_1 + (rd l0_0 x11_1))) ≤ a0_3) = true := decide_eq_true c40
                 (try (have c40b0w := c40b0; ((first | rw [pw_wdiv _ _ (by omega) (by omega)] at c40b0w | rw [pw_wdiv' _ _ (by omega) (by omega)] at c40b0w | rw [Go.IntWalk.wrap64_in _ (by omega)] at c40b0w); repeat (first | rw [pw_wdiv _ _ (by omega) (by omega)] at c40b0w | rw [pw_wdiv' _ _ (by omega) (by omega)] at c40b0w | rw [Go.IntWalk.wrap64_in _ (by omega)] at c40b0w))))
                 clear c40
                 by_cases c41 : a0_3 ≤ (wrap64 ((wrap64 ((wrap64 (x8_1 + (rd l0_0 x11_1))) + (rd l0_1 x11_1))) - 1))
                 ·as_aux_lemma =>
                  rw [if_pos c41] at H
                  have c41b0 : decide (a0_3 ≤ (wrap64 ((wrap64 ((wrap64 (x8_1 + (rd l0_0 x11_1))) + (rd l0_1 x11_1))) - 1))) = true := decide_eq_true c41
                  (try (have c41b0w := c41b0; ((first | rw [pw_wdiv _ _ (by omega) (by omega)] at c41b0w | rw [pw_wdiv' _ _ (by omega) (by omega)] at c41b0w | rw [Go.IntWalk.wrap64_in _ (by omega)] at c41b0w); repeat (first | rw [pw_wdiv _ _ (by omega) (by omega)] at c41b0w | rw [pw_wdiv' _ _ (by omega) (by omega)] at c41b0w | rw [Go.IntWalk.wrap64_in _ (by omega)] at c41b0w))))
                  clear c41
                  by_cases c42 : a0_3 < 55296
                  ·as_aux_lemma =>
                   rw [if_pos c42] at H
                   have c42b0 : decide (a0_3 < 55296) = true := decide_eq_true c42
                   clear c42
                   have H' := Aside0.mk H
                   clear H
                   have p449 : 0 ≤ (x11_1 : Int) := of_decide_eq_true (by first | (with_reducible assumption) | assumption)
                   have q449 : x11_1 < (l0_0.length : Int) := of_decide_eq_true (by first | (with_reducible assumption) | assumption)
                   obtain ⟨ad449, e449, hx449_0⟩ := Kd.at_int HR0_0.out x11_1 p449 q449
                   cases e449
                   replace hx449_0 := (HB.out.cell (World.block_lt_of_cell? w _ hx449_0)).trans hx449_0
                   replace p449 := eq_true p449
                   replace q449 := eq_true q449
                   have p450 : 0 ≤ (x11_1 : Int) := of_decide_eq_true (by first | (with_reducible assumption) | assumption)
                   have q450 : x11_1 < (l0_1.length : Int) := of_decide_eq_true (by first | (with_reducible assumption) | assumption)
                   obtain ⟨ad450, e450, hx450_0⟩ := Kd.at_int HR0_1.out x11_1 p450 q450
                   cases e450
                   replace hx450_0 := (HB.out.cell (World.block_lt_of_cell? w _ hx450_0)).trans hx450_0
                   replace p450 := eq_true p450
                   replace q450 := eq_true q450
                   try go_wp2
                   have n0_ := Aside0.mk (Kd.R_drew HO_7.out)
                   have n1_ := Aside0.mk (blk_drew BK439.out)
                   have n2_ := Aside0.mk (below_drew1 HB.out)
                   clear HO_7
                   clear BK439
                   clear HB
                   have HO_7 := n0_
                   have BK439 := n1_
                   have HB := n2_
                   clear n0_ n1_ n2_
                   have p453 : 0 ≤ (x11_1 : Int) := of_decide_eq_true (by first | (with_reducible assumption) | assumption)
                   have q453 : x11_1 < (l0_2.length : Int) := of_decide_eq_true (by first | (with_reducible assumption) | assumption)
                   obtain ⟨ad453, e453, hx453_0⟩ := Kd.at_int HR0_2.out x11_1 p453 q453
                   have hw453_0 := hx453_0
                   cases e453
                   replace hx453_0 := (HB.out.cell (World.block_lt_of_cell? w _ hx453_0)).trans hx453_0
                   replace p453 := eq_true p453
                   replace q453 := eq_true q453
                   refine start_ (n := 14) (S := fun w' => w'.cell? (ad453.add (x11_1).toNat) = some (.int .i64 (rd l0_2 x11_1))) (ds := []) #[false, false, false, false, false, false, false, false, false, false, false, false, false, false] (by kernel_rfl) rfl rfl (((HB.out.cell (World.block_lt_of_cell? w _ hw453_0)).trans hw453_0)) (fun hHeld => ?_); refine with_tabW colophonlaw11_CmapSends.tab11 colophonlaw11_CmapSends.bits11 (fun HT_ HW_ => ?_)
                   generalize wc.drew = w43 at HO_7 BK439 HB hx453_0 hHeld ⊢
                   refine pure_ (i := 0) (N := some 115) (v := ?_) (a' := ?_) #[true, false, false, false, false, false, false, false, false, false, false, false, false, false] rfl rfl (any_of HT_.out (by kernel_rfl)) (fun _ _ _ h => h) (Or.inl ⟨by rfl, ?_⟩) ?_ ?_
                   rotate_left
                   ·intro w'
                    go_simp
                    with_reducible rfl
                   rotate_left
                   ·simp only [Act.put, List.setIfInBounds_toArray, List.set_cons_zero, List.set_cons_succ, i64_w, i32_w]
                    rfl
                   refine pure_ (i := 1) (N := some 116) (v := ?_) (a' := ?_) #[true, true, false, false, false, false, false, false, false, false, false, false, false, false] rfl rfl (any_of HT_.out (by kernel_rfl)) (fun _ _ _ h => h) (Or.inl ⟨by rfl, ?_⟩) ?_ ?_
                   rotate_left
                   ·intro w'
                    go_simp
                    with_reducible rfl
                   rotate_left
                   ·simp only [Act.put, List.setIfInBounds_toArray, List.set_cons_zero, List.set_cons_succ, i64_w, i32_w]
                    rfl
                   refine pure_ (i := 3) (N := some 118) (v := ?_) (a' := ?_) #[true, true, false, true, false, false, false, false, false, false, false, false, false, false] rfl rfl (any_of HT_.out (by kernel_rfl)) (fun _ _ _ h => h) (Or.inl ⟨by rfl, ?_⟩) ?_ ?_
                   rotate_left
                   ·intro w'
                    go_simp
                    with_reducible rfl
                   rotate_left
                   ·simp only [Act.put, List.setIfInBounds_toArray, List.set_cons_zero, List.set_cons_succ, i64_w, i32_w]
                    rfl
                   refine pure_ (i := 6) (N := some 121) (v := ?_) (a' := ?_) #[true, true, false, true, false, false, true, false, false, false, false, false, false, false] rfl rfl (any_of HT_.out (by kernel_rfl)) (fun _ _ _ h => h) (Or.inl ⟨by rfl, ?_⟩) ?_ ?_
                   rotate_left
                   ·intro w'
                    go_simp
                    with_reducible rfl
                   rotate_left
                   ·simp only [Act.put, List.setIfInBounds_toArray, List.set_cons_zero, List.set_cons_succ, i64_w, i32_w]
                    rfl
                   refine pure_ (i := 7) (N := some 122) (v := ?_) (a' := ?_) #[true, true, false, true, false, false, true, true, false, false, false, false, false, false] rfl rfl (any_of HT_.out (by kernel_rfl)) (fun _ _ _ h => h) (Or.inl ⟨by rfl, ?_⟩) ?_ ?_
                   rotate_left
                   ·intro w'
                    go_simp
                    with_reducible rfl
                   rotate_left
                   ·simp only [Act.put, List.setIfInBounds_toArray, List.set_cons_zero, List.set_cons_succ, i64_w, i32_w]
                    rfl
                   refine pure_ (i := 8) (N := some 123) (v := ?_) (a' := ?_) #[true, true, false, true, false, false, true, true, true, false, false, false, false, false] rfl rfl (any_of HT_.out (by kernel_rfl)) (fun _ _ _ h => h) (Or.inl ⟨by rfl, ?_⟩) ?_ ?_
                   rotate_left
                   ·intro w'
                    go_simp
                    with_reducible rfl
                   rotate_left
                   ·simp only [Act.put, List.setIfInBounds_toArray, List.set_cons_zero, List.set_cons_succ, i64_w, i32_w]
                    rfl
                   refine take_ (i := 9) (N := some 124) (v := ?_) (a' := ?_) #[true, true, false, true, false, false, true, true, true, true, false, false, false, false] rfl rfl (take_ofW HT_.out HW_.out (by kernel_rfl)) (fun _ _ _ h => h) (Or.inl ⟨by rfl, ?_⟩) hHeld ?_ ?_
                   rotate_left
                   ·intro w' s0
                    go_simp
                    with_reducible rfl
                   rotate_left
                   ·simp only [Act.put, List.setIfInBounds_toArray, List.set_cons_zero, List.set_cons_succ, i64_w, i32_w]
                    rfl
                   refine one_ (i := 2) (N := some 117) #[true, true, true, true, false, false, true, true, true, true, false, false, false, false] rfl rfl (one_of HT_.out (by kernel_rfl)) (by decide) (fun K hK => ?_)
                   refine goes_ Try.func18 (by kernel_rfl) rfl #[.int .i64 (wrap64 (x8_1 + (rd l0_0 x11_1)))] (by rfl) rfl rfl (by (try simp only [List.map_toArray, List.map_cons, List.map_nil]); first | done | rfl | (simp only [List.length_drop, List.length_take]; rfl)) ?_
                   with_reducible refine (colophonlaw11_four.calls (wrap64 (x8_1 + (rd l0_0 x11_1))) t451 _ A33.out).mono ?_
                   rintro e w44 ⟨rfl, hb⟩
                   refine ⟨_, rfl, ?_⟩
                   have n0_ := Aside0.mk (Kd.R_below (by (with_reducible repeat (first | apply Kd.R_alloc | apply Kd.R_drewN | apply Kd.R_drew)); exact HO_7.out) hb)
                   have n1_ := Aside0.mk (blk_below (g := gb439) (o := .cells #[.slice (some ad449) l0_0.length c0_0, .slice (some ad450) l0_1.length c0_1, .slice (some ad453) l0_2.length c0_2, .int .i64 a0_3] 42 (0, 0)) (by (with_reducible repeat (first | refine blk_drewN ?_ _ | refine blk_drew ?_ | refine blk_alloc ?_ _)); exact BK439.out) hb)
                   have n2_ := Aside0.mk (below_step (by repeat (first | (with_reducible first | exact HB.out | apply below_alloc | apply pw_below_drewN | apply below_drew1 | refine below_set ?_ GE439.out) | exact HB.out)) hb)
                   clear HO_7
                   clear BK439
                   clear HB
                   have HO_7 := n0_
                   have BK439 := n1_
                   have HB := n2_
                   clear n0_ n1_ n2_
                   (try clear hb)
                   (try clear hb2)
                   (try clear hk)
                   (try clear hi)
                   refine hK.out _ _ (((HB.out.cell (World.block_lt_of_cell? w _ hw453_0)).trans hw453_0)) (fun hHeld => ?_)
                   clear hK K
                   refine norm_ (a' := ?_) ?_ ?_
                   rotate_left
                   ·show Act.put _ (some 117) _ = _
                    simp only [Act.put, List.setIfInBounds_toArray, List.set_cons_zero, List.set_cons_succ, i64_w, i32_w]
                    rfl
                   refine one_ (i := 4) (N := some 119) #[true, true, true, true, true, false, true, true, true, true, false, false, false, false] rfl rfl (one_of HT_.out (by kernel_rfl)) (by decide) (fun K hK => ?_)
                   refine goes_ Try.func18 (by kernel_rfl) rfl #[.int .i64 (wrap64 ((wrap64 ((wrap64 (x8_1 + (rd l0_0 x11_1))) + (rd l0_1 x11_1))) - 1))] (by rfl) rfl rfl (by (try simp only [List.map_toArray, List.map_cons, List.map_nil]); first | done | rfl | (simp only [List.length_drop, List.length_take]; rfl)) ?_
                   with_reducible refine (colophonlaw11_four.calls (wrap64 ((wrap64 ((wrap64 (x8_1 + (rd l0_0 x11_1))) + (rd l0_1 x11_1))) - 1)) t452 _ A34.out).mono ?_
                   rintro e w45 ⟨rfl, hb⟩
                   refine ⟨_, rfl, ?_⟩
                   have n0_ := Aside0.mk (Kd.R_below (by (with_reducible repeat (first | apply Kd.R_alloc | apply Kd.R_drewN | apply Kd.R_drew)); exact HO_7.out) hb)
                   have n1_ := Aside0.mk (blk_below (g := gb439) (o := .cells #[.slice (some ad449) l0_0.length c0_0, .slice (some ad450) l0_1.length c0_1, .slice (some ad453) l0_2.length c0_2, .int .i64 a0_3] 42 (0, 0)) (by (with_reducible repeat (first | refine blk_drewN ?_ _ | refine blk_drew ?_ | refine blk_alloc ?_ _)); exact BK439.out) hb)
                   have n2_ := Aside0.mk (below_step (by repeat (first | (with_reducible first | exact HB.out | apply below_alloc | apply pw_below_drewN | apply below_drew1 | refine below_set ?_ GE439.out) | exact HB.out)) hb)
                   clear HO_7
                   clear BK439
                   clear HB
                   have HO_7 := n0_
                   have BK439 := n1_
                   have HB := n2_
                   clear n0_ n1_ n2_
                   (try clear hb)
                   (try clear hb2)
                   (try clear hk)
                   (try clear hi)
                   refine hK.out _ _ (((HB.out.cell (World.block_lt_of_cell? w _ hw453_0)).trans hw453_0)) (fun hHeld => ?_)
                   clear hK K
                   refine norm_ (a' := ?_) ?_ ?_
                   rotate_left
                   ·show Act.put _ (some 119) _ = _
                    simp only [Act.put, List.setIfInBounds_toArray, List.set_cons_zero, List.set_cons_succ, i64_w, i32_w]
                    rfl
                   refine pure_ (i := 5) (N := some 120) (v := ?_) (a' := ?_) #[true, true, true, true, true, true, true, true, true, true, false, false, false, false] rfl rfl (any_of HT_.out (by kernel_rfl)) (fun _ _ _ h => h) (Or.inl ⟨by rfl, ?_⟩) ?_ ?_
                   rotate_left
                   ·intro w'
                    go_simp
                    with_reducible rfl
                   rotate_left
                   ·simp only [Act.put, List.setIfInBounds_toArray, List.set_cons_zero, List.set_cons_succ, i64_w, i32_w]
                    rfl
                   refine one_ (i := 10) (N := some 125) #[true, true, true, true, true, true, true, true, true, true, true, false, false, false] rfl rfl (one_of HT_.out (by kernel_rfl)) (by decide) (fun K hK => ?_)
                   refine goes_ Try.func18 (by kernel_rfl) rfl #[.int .i64 (rd l0_2 x11_1)] (by rfl) rfl rfl (by (try simp only [List.map_toArray, List.map_cons, List.map_nil]); first | done | rfl | (simp only [List.length_drop, List.length_take]; rfl)) ?_
                   with_reducible refine (colophonlaw11_four.calls (rd l0_2 x11_1) t454 _ A37.out).mono ?_
                   rintro e w46 ⟨rfl, hb⟩
                   refine ⟨_, rfl, ?_⟩
                   have n0_ := Aside0.mk (Kd.R_below (by (with_reducible repeat (first | apply Kd.R_alloc | apply Kd.R_drewN | apply Kd.R_drew)); exact HO_7.out) hb)
                   have n1_ := Aside0.mk (blk_below (g := gb439) (o := .cells #[.slice (some ad449) l0_0.length c0_0, .slice (some ad450) l0_1.length c0_1, .slice (some ad453) l0_2.length c0_2, .int .i64 a0_3] 42 (0, 0)) (by (with_reducible repeat (first | refine blk_drewN ?_ _ | refine blk_drew ?_ | refine blk_alloc ?_ _)); exact BK439.out) hb)
                   have n2_ := Aside0.mk (below_step (by repeat (first | (with_reducible first | exact HB.out | apply below_alloc | apply pw_below_drewN | apply below_drew1 | refine below_set ?_ GE439.out) | exact HB.out)) hb)
                   clear HO_7
                   clear BK439
                   clear HB
                   have HO_7 := n0_
                   have BK439 := n1_
                   have HB := n2_
                   clear n0_ n1_ n2_
                   (try clear hb)
                   (try clear hb2)
                   (try clear hk)
                   (try clear hi)
                   refine hK.out _ _ (((HB.out.cell (World.block_lt_of_cell? w _ hw453_0)).trans hw453_0)) (fun hHeld => ?_)
                   clear hK K
                   refine norm_ (a' := ?_) ?_ ?_
                   rotate_left
                   ·show Act.put _ (some 125) _ = _
                    simp only [Act.put, List.setIfInBounds_toArray, List.set_cons_zero, List.set_cons_succ, i64_w, i32_w]
                    rfl
                   refine pure_ (i := 11) (N := some 126) (v := ?_) (a' := ?_) #[true, true, true, true, true, true, true, true, true, true, true, true, false, false] rfl rfl (any_of HT_.out (by kernel_rfl)) (fun _ _ _ h => h) (Or.inl ⟨by rfl, ?_⟩) ?_ ?_
                   rotate_left
                   ·intro w'
                    go_simp
                    with_reducible rfl
                   rotate_left
                   ·simp only [Act.put, List.setIfInBounds_toArray, List.set_cons_zero, List.set_cons_succ, i64_w, i32_w]
                    rfl
                   refine one_ (i := 12) (N := some 127) #[true, true, true, true, true, true, true, true, true, true, true, true, true, false] rfl rfl (one_of HT_.out (by kernel_rfl)) (by decide) (fun K hK => ?_)
                   refine pw_append_str_step (w0 := w) w.heap.size (by rfl) (.tmp 115) _ 43 9 5 rfl Try.underlying43 Try.underlying9 info5 u7 x7_1 ((t451 ++ t452) ++ t454) rfl rfl ?aO ?aB ?aS ?aL ?_
                   (case aB => exact (by repeat (first | (with_reducible first | exact HB.out | apply below_alloc | apply pw_below_drewN | apply below_drew1 | refine below_set ?_ GE439.out) | exact HB.out)))
                   (case aO => exact (Kd.own_of_R (by (with_reducible repeat (first | apply Kd.R_alloc | apply Kd.R_drewN | apply Kd.R_drew)); exact HO_7.out)))
                   (case aS => exact (below_size (by repeat (first | (with_reducible first | exact HB.out | apply below_alloc | apply pw_below_drewN | apply below_drew1 | refine below_set ?_ GE439.out) | exact HB.out))))
                   (case aL => have := LMc39.out; omega)
                   intro v456 w47 ho0 hb hg
                   have ho := Kd.R_of_own (h1 := fun _ => rfl) (ok := fun _ => True) ho0 (fun _ _ => trivial)
                   clear ho0
                   have hat := True.intro
                   rw [← Ny455.out] at ho
                   change Kd.R (Kd.int .u8) 5 w47 w.heap.size (fun _ => True) v456 y455 at ho
                   have n0_ := Aside0.mk (blk_grown (g := gb439) (o := .cells #[.slice (some ad449) l0_0.length c0_0, .slice (some ad450) l0_1.length c0_1, .slice (some ad453) l0_2.length c0_2, .int .i64 a0_3] 42 (0, 0)) (by (with_reducible repeat (first | refine blk_drewN ?_ _ | refine blk_drew ?_ | refine blk_alloc ?_ _)); exact BK439.out) hg (Kd.R_ne HO_7.out BK439.out (by decide)))
                   have n1_ := Aside0.mk (hb)
                   have n2_ := Aside0.mk (ho)
                   clear BK439
                   clear HB
                   clear HO_7
                   have BK439 := n0_
                   have HB := n1_
                   have HO457 := n2_
                   clear n0_ n1_ n2_
                   clear ho hb hg hat
                   refine hK.out _ _ (((HB.out.cell (World.block_lt_of_cell? w _ hw453_0)).trans hw453_0)) (fun hHeld => ?_)
                   clear hK K
                   refine norm_ (a' := ?_) ?_ ?_
                   rotate_left
                   ·show Act.put _ (some 127) _ = _
                    simp only [Act.put, List.setIfInBounds_toArray, List.set_cons_zero, List.set_cons_succ, i64_w, i32_w]
                    rfl
                   refine pure_ (i := 13) (N := some 7) (v := ?_) (a' := ?_) #[true, true, true, true, true, true, true, true, true, true, true, true, true, true] rfl rfl (any_of HT_.out (by kernel_rfl)) (fun _ _ _ h => h) (Or.inl ⟨by rfl, ?_⟩) ?_ ?_
                   rotate_left
                   ·intro w'
                    go_simp
                    with_reducible rfl
                   rotate_left
                   ·simp only [Act.put, List.setIfInBounds_toArray, List.set_cons_zero, List.set_cons_succ, i64_w, i32_w]
                    rfl
                   refine done_ (done_of HT_.out (by kernel_rfl)) ?_
                   have p458 : 0 ≤ (x11_1 : Int) := of_decide_eq_true (by first | (with_reducible assumption) | assumption)
                   have q458 : x11_1 < (l0_2.length : Int) := of_decide_eq_true (by first | (with_reducible assumption) | assumption)
                   obtain ⟨ad458, e458, hx458_0⟩ := Kd.at_int HR0_2.out x11_1 p458 q458
                   obtain rfl : ad453 = ad458 := (by injection e458)
                   replace hx458_0 := (HB.out.cell (World.block_lt_of_cell? w _ hx458_0)).trans hx458_0
                   replace p458 := eq_true p458
                   replace q458 := eq_true q458
                   try go_wp2
                   go_roundg kj8
                   case measure => have := HK1.out; have := HJ3.out; have := HJ8.out; omega
                   case rel => exact ⟨(y455), (wrap64 ((wrap64 ((wrap64 ((wrap64 (x8_1 + (rd l0_0 x11_1))) + (rd l0_1 x11_1))) - 1)) + 1)), (wrap64 ((wrap64 ((rd l0_2 x11_1) + a0_3)) - (wrap64 (x8_1 + (rd l0_0 x11_1))))), (wrap64 (x10_1 + 1)), (wrap64 (x11_1 + 1)), (by first | rfl | (simp; done) | (simp [*]; done)), (by first | rfl | (simp; done) | (simp [*]; done)), (by first | rfl | (simp; done) | (simp [*]; done)), (by first | rfl | (simp; done) | (simp [*]; done)), H', ⟨by have := HK1.out; have := HJ3.out; have := HJ8.out; omega⟩, ⟨by (with_reducible repeat (first | apply Kd.R_alloc | apply Kd.R_drewN | apply Kd.R_drew)); exact HO457.out⟩, ⟨by (with_reducible repeat (first | refine blk_drewN ?_ _ | refine blk_drew ?_ | refine blk_alloc ?_ _)); exact BK439.out⟩, ⟨by repeat (first | (with_reducible first | exact HB.out | apply below_alloc | apply pw_below_drewN | apply below_drew1 | refine below_set ?_ GE439.out) | exact HB.out)⟩⟩
                  ·as_aux_lemma =>
                   rw [if_neg c42] at H
                   have c42b0 : decide (a0_3 < 55296) = false := decide_eq_false c42
                   clear c42
                   by_cases c48 : a0_3 > 57343
                   ·as_aux_lemma =>
                    rw [if_pos c48] at H
                    have c48b0 : decide (57343 < a0_3) = true := decide_eq_true c48
                    clear c48
                    have H' := Aside0.mk H
                    clear H
                    have p449 : 0 ≤ (x11_1 : Int) := of_decide_eq_true (by first | (with_reducible assumption) | assumption)
                    have q449 : x11_1 < (l0_0.length : Int) := of_decide_eq_true (by first | (with_reducible assumption) | assumption)
                    obtain ⟨ad449, e449, hx449_0⟩ := Kd.at_int HR0_0.out x11_1 p449 q449
                    cases e449
                    replace hx449_0 := (HB.out.cell (World.block_lt_of_cell? w _ hx449_0)).trans hx449_0
                    replace p449 := eq_true p449
                    replace q449 := eq_true q449
                    have p450 : 0 ≤ (x11_1 : Int) := of_decide_eq_true (by first | (with_reducible assumption) | assumption)
                    have q450 : x11_1 < (l0_1.length : Int) := of_decide_eq_true (by first | (with_reducible assumption) | assumption)
                    obtain ⟨ad450, e450, hx450_0⟩ := Kd.at_int HR0_1.out x11_1 p450 q450
                    cases e450
                    replace hx450_0 := (HB.out.cell (World.block_lt_of_cell? w _ hx450_0)).trans hx450_0
                    replace p450 := eq_true p450
                    replace q450 := eq_true q450
                    try go_wp2
                    have n0_ := Aside0.mk (Kd.R_drew HO_7.out)
                    have n1_ := Aside0.mk (blk_drew BK439.out)
                    have n2_ := Aside0.mk (below_drew1 HB.out)
                    clear HO_7
                    clear BK439
                    clear HB
                    have HO_7 := n0_
                    have BK439 := n1_
                    have HB := n2_
                    clear n0_ n1_ n2_
                    have p453 : 0 ≤ (x11_1 : Int) := of_decide_eq_true (by first | (with_reducible assumption) | assumption)
                    have q453 : x11_1 < (l0_2.length : Int) := of_decide_eq_true (by first | (with_reducible assumption) | assumption)
                    obtain ⟨ad453, e453, hx453_0⟩ := Kd.at_int HR0_2.out x11_1 p453 q453
                    have hw453_0 := hx453_0
                    cases e453
                    replace hx453_0 := (HB.out.cell (World.block_lt_of_cell? w _ hx453_0)).trans hx453_0
                    replace p453 := eq_true p453
                    replace q453 := eq_true q453
                    refine start_ (n := 14) (S := fun w' => w'.cell? (ad453.add (x11_1).toNat) = some (.int .i64 (rd l0_2 x11_1))) (ds := []) #[false, false, false, false, false, false, false, false, false, false, false, false, false, false] (by kernel_rfl) rfl rfl (((HB.out.cell (World.block_lt_of_cell? w _ hw453_0)).trans hw453_0)) (fun hHeld => ?_); refine with_tabW colophonlaw11_CmapSends.tab11 colophonlaw11_CmapSends.bits11 (fun HT_ HW_ => ?_)
                    generalize wc.drew = w49 at HO_7 BK439 HB hx453_0 hHeld ⊢
                    refine pure_ (i := 0) (N := some 115) (v := ?_) (a' := ?_) #[true, false, false, false, false, false, false, false, false, false, false, false, false, false] rfl rfl (any_of HT_.out (by kernel_rfl)) (fun _ _ _ h => h) (Or.inl ⟨by rfl, ?_⟩) ?_ ?_
                    rotate_left
                    ·intro w'
                     go_simp
                     with_reducible rfl
                    rotate_left
                    ·simp only [Act.put, List.setIfInBounds_toArray, List.set_cons_zero, List.set_cons_succ, i64_w, i32_w]
                     rfl
                    refine pure_ (i := 1) (N := some 116) (v := ?_) (a' := ?_) #[true, true, false, false, false, false, false, false, false, false, false, false, false, false] rfl rfl (any_of HT_.out (by kernel_rfl)) (fun _ _ _ h => h) (Or.inl ⟨by rfl, ?_⟩) ?_ ?_
                    rotate_left
                    ·intro w'
                     go_simp
                     with_reducible rfl
                    rotate_left
                    ·simp only [Act.put, List.setIfInBounds_toArray, List.set_cons_zero, List.set_cons_succ, i64_w, i32_w]
                     rfl
                    refine pure_ (i := 3) (N := some 118) (v := ?_) (a' := ?_) #[true, true, false, true, false, false, false, false, false, false, false, false, false, false] rfl rfl (any_of HT_.out (by kernel_rfl)) (fun _ _ _ h => h) (Or.inl ⟨by rfl, ?_⟩) ?_ ?_
                    rotate_left
                    ·intro w'
                     go_simp
                     with_reducible rfl
                    rotate_left
                    ·simp only [Act.put, List.setIfInBounds_toArray, List.set_cons_zero, List.set_cons_succ, i64_w, i32_w]
                     rfl
                    refine pure_ (i := 6) (N := some 121) (v := ?_) (a' := ?_) #[true, true, false, true, false, false, true, false, false, false, false, false, false, false] rfl rfl (any_of HT_.out (by kernel_rfl)) (fun _ _ _ h => h) (Or.inl ⟨by rfl, ?_⟩) ?_ ?_
                    rotate_left
                    ·intro w'
                     go_simp
                     with_reducible rfl
                    rotate_left
                    ·simp only [Act.put, List.setIfInBounds_toArray, List.set_cons_zero, List.set_cons_succ, i64_w, i32_w]
                     rfl
                    refine pure_ (i := 7) (N := some 122) (v := ?_) (a' := ?_) #[true, true, false, true, false, false, true, true, false, false, false, false, false, false] rfl rfl (any_of HT_.out (by kernel_rfl)) (fun _ _ _ h => h) (Or.inl ⟨by rfl, ?_⟩) ?_ ?_
                    rotate_left
                    ·intro w'
                     go_simp
                     with_reducible rfl
                    rotate_left
                    ·simp only [Act.put, List.setIfInBounds_toArray, List.set_cons_zero, List.set_cons_succ, i64_w, i32_w]
                     rfl
                    refine pure_ (i := 8) (N := some 123) (v := ?_) (a' := ?_) #[true, true, false, true, false, false, true, true, true, false, false, false, false, false] rfl rfl (any_of HT_.out (by kernel_rfl)) (fun _ _ _ h => h) (Or.inl ⟨by rfl, ?_⟩) ?_ ?_
                    rotate_left
                    ·intro w'
                     go_simp
                     with_reducible rfl
                    rotate_left
                    ·simp only [Act.put, List.setIfInBounds_toArray, List.set_cons_zero, List.set_cons_succ, i64_w, i32_w]
                     rfl
                    refine take_ (i := 9) (N := some 124) (v := ?_) (a' := ?_) #[true, true, false, true, false, false, true, true, true, true, false, false, false, false] rfl rfl (take_ofW HT_.out HW_.out (by kernel_rfl)) (fun _ _ _ h => h) (Or.inl ⟨by rfl, ?_⟩) hHeld ?_ ?_
                    rotate_left
                    ·intro w' s0
                     go_simp
                     with_reducible rfl
                    rotate_left
                    ·simp only [Act.put, List.setIfInBounds_toArray, List.set_cons_zero, List.set_cons_succ, i64_w, i32_w]
                     rfl
                    refine one_ (i := 2) (N := some 117) #[true, true, true, true, false, false, true, true, true, true, false, false, false, false] rfl rfl (one_of HT_.out (by kernel_rfl)) (by decide) (fun K hK => ?_)
                    refine goes_ Try.func18 (by kernel_rfl) rfl #[.int .i64 (wrap64 (x8_1 + (rd l0_0 x11_1)))] (by rfl) rfl rfl (by (try simp only [List.map_toArray, List.map_cons, List.map_nil]); first | done | rfl | (simp only [List.length_drop, List.length_take]; rfl)) ?_
                    with_reducible refine (colophonlaw11_four.calls (wrap64 (x8_1 + (rd l0_0 x11_1))) t451 _ A33.out).mono ?_
                    rintro e w50 ⟨rfl, hb⟩
                    refine ⟨_, rfl, ?_⟩
                    have n0_ := Aside0.mk (Kd.R_below (by (with_reducible repeat (first | apply Kd.R_alloc | apply Kd.R_drewN | apply Kd.R_drew)); exact HO_7.out) hb)
                    have n1_ := Aside0.mk (blk_below (g := gb439) (o := .cells #[.slice (some ad449) l0_0.length c0_0, .slice (some ad450) l0_1.length c0_1, .slice (some ad453) l0_2.length c0_2, .int .i64 a0_3] 42 (0, 0)) (by (with_reducible repeat (first | refine blk_drewN ?_ _ | refine blk_drew ?_ | refine blk_alloc ?_ _)); exact BK439.out) hb)
                    have n2_ := Aside0.mk (below_step (by repeat (first | (with_reducible first | exact HB.out | apply below_alloc | apply pw_below_drewN | apply below_drew1 | refine below_set ?_ GE439.out) | exact HB.out)) hb)
                    clear HO_7
                    clear BK439
                    clear HB
                    have HO_7 := n0_
                    have BK439 := n1_
                    have HB := n2_
                    clear n0_ n1_ n2_
                    (try clear hb)
                    (try clear hb2)
                    (try clear hk)
                    (try clear hi)
                    refine hK.out _ _ (((HB.out.cell (World.block_lt_of_cell? w _ hw453_0)).trans hw453_0)) (fun hHeld => ?_)
                    clear hK K
                    refine norm_ (a' := ?_) ?_ ?_
                    rotate_left
                    ·show Act.put _ (some 117) _ = _
                     simp only [Act.put, List.setIfInBounds_toArray, List.set_cons_zero, List.set_cons_succ, i64_w, i32_w]
                     rfl
                    refine one_ (i := 4) (N := some 119) #[true, true, true, true, true, false, true, true, true, true, false, false, false, false] rfl rfl (one_of HT_.out (by kernel_rfl)) (by decide) (fun K hK => ?_)
                    refine goes_ Try.func18 (by kernel_rfl) rfl #[.int .i64 (wrap64 ((wrap64 ((wrap64 (x8_1 + (rd l0_0 x11_1))) + (rd l0_1 x11_1))) - 1))] (by rfl) rfl rfl (by (try simp only [List.map_toArray, List.map_cons, List.map_nil]); first | done | rfl | (simp only [List.length_drop, List.length_take]; rfl)) ?_
                    with_reducible refine (colophonlaw11_four.calls (wrap64 ((wrap64 ((wrap64 (x8_1 + (rd l0_0 x11_1))) + (rd l0_1 x11_1))) - 1)) t452 _ A34.out).mono ?_
                    rintro e w51 ⟨rfl, hb⟩
                    refine ⟨_, rfl, ?_⟩
                    have n0_ := Aside0.mk (Kd.R_below (by (with_reducible repeat (first | apply Kd.R_alloc | apply Kd.R_drewN | apply Kd.R_drew)); exact HO_7.out) hb)
                    have n1_ := Aside0.mk (blk_below (g := gb439) (o := .cells #[.slice (some ad449) l0_0.length c0_0, .slice (some ad450) l0_1.length c0_1, .slice (some ad453) l0_2.length c0_2, .int .i64 a0_3] 42 (0, 0)) (by (with_reducible repeat (first | refine blk_drewN ?_ _ | refine blk_drew ?_ | refine blk_alloc ?_ _)); exact BK439.out) hb)
                    have n2_ := Aside0.mk (below_step (by repeat (first | (with_reducible first | exact HB.out | apply below_alloc | apply pw_below_drewN | apply below_drew1 | refine below_set ?_ GE439.out) | exact HB.out)) hb)
                    clear HO_7
                    clear BK439
                    clear HB
                    have HO_7 := n0_
                    have BK439 := n1_
                    have HB := n2_
                    clear n0_ n1_ n2_
                    (try clear hb)
                    (try clear hb2)
                    (try clear hk)
                    (try clear hi)
                    refine hK.out _ _ (((HB.out.cell (World.block_lt_of_cell? w _ hw453_0)).trans hw453_0)) (fun hHeld => ?_)
                    clear hK K
                    refine norm_ (a' := ?_) ?_ ?_
                    rotate_left
                    ·show Act.put _ (some 119) _ = _
                     simp only [Act.put, List.setIfInBounds_toArray, List.set_cons_zero, List.set_cons_succ, i64_w, i32_w]
                     rfl
                    refine pure_ (i := 5) (N := some 120) (v := ?_) (a' := ?_) #[true, true, true, true, true, true, true, true, true, true, false, false, false, false] rfl rfl (any_of HT_.out (by kernel_rfl)) (fun _ _ _ h => h) (Or.inl ⟨by rfl, ?_⟩) ?_ ?_
                    rotate_left
                    ·intro w'
                     go_simp
                     with_reducible rfl
                    rotate_left
                    ·simp only [Act.put, List.setIfInBounds_toArray, List.set_cons_zero, List.set_cons_succ, i64_w, i32_w]
                     rfl
                    refine one_ (i := 10) (N := some 125) #[true, true, true, true, true, true, true, true, true, true, true, false, false, false] rfl rfl (one_of HT_.out (by kernel_rfl)) (by decide) (fun K hK => ?_)
                    refine goes_ Try.func18 (by kernel_rfl) rfl #[.int .i64 (rd l0_2 x11_1)] (by rfl) rfl rfl (by (try simp only [List.map_toArray, List.map_cons, List.map_nil]); first | done | rfl | (simp only [List.length_drop, List.length_take]; rfl)) ?_
                    with_reducible refine (colophonlaw11_four.calls (rd l0_2 x11_1) t454 _ A37.out).mono ?_
                    rintro e w52 ⟨rfl, hb⟩
                    refine ⟨_, rfl, ?_⟩
                    have n0_ := Aside0.mk (Kd.R_below (by (with_reducible repeat (first | apply Kd.R_alloc | apply Kd.R_drewN | apply Kd.R_drew)); exact HO_7.out) hb)
                    have n1_ := Aside0.mk (blk_below (g := gb439) (o := .cells #[.slice (some ad449) l0_0.length c0_0, .slice (some ad450) l0_1.length c0_1, .slice (some ad453) l0_2.length c0_2, .int .i64 a0_3] 42 (0, 0)) (by (with_reducible repeat (first | refine blk_drewN ?_ _ | refine blk_drew ?_ | refine blk_alloc ?_ _)); exact BK439.out) hb)
                    have n2_ := Aside0.mk (below_step (by repeat (first | (with_reducible first | exact HB.out | apply below_alloc | apply pw_below_drewN | apply below_drew1 | refine below_set ?_ GE439.out) | exact HB.out)) hb)
                    clear HO_7
                    clear BK439
                    clear HB
                    have HO_7 := n0_
                    have BK439 := n1_
                    have HB := n2_
                    clear n0_ n1_ n2_
                    (try clear hb)
                    (try clear hb2)
                    (try clear hk)
                    (try clear hi)
                    refine hK.out _ _ (((HB.out.cell (World.block_lt_of_cell? w _ hw453_0)).trans hw453_0)) (fun hHeld => ?_)
                    clear hK K
                    refine norm_ (a' := ?_) ?_ ?_
                    rotate_left
                    ·show Act.put _ (some 125) _ = _
                     simp only [Act.put, List.setIfInBounds_toArray, List.set_cons_zero, List.set_cons_succ, i64_w, i32_w]
                     rfl
                    refine pure_ (i := 11) (N := some 126) (v := ?_) (a' := ?_) #[true, true, true, true, true, true, true, true, true, true, true, true, false, false] rfl rfl (any_of HT_.out (by kernel_rfl)) (fun _ _ _ h => h) (Or.inl ⟨by rfl, ?_⟩) ?_ ?_
                    rotate_left
                    ·intro w'
                     go_simp
                     with_reducible rfl
                    rotate_left
                    ·simp only [Act.put, List.setIfInBounds_toArray, List.set_cons_zero, List.set_cons_succ, i64_w, i32_w]
                     rfl
                    refine one_ (i := 12) (N := some 127) #[true, true, true, true, true, true, true, true, true, true, true, true, true, false] rfl rfl (one_of HT_.out (by kernel_rfl)) (by decide) (fun K hK => ?_)
                    refine pw_append_str_step (w0 := w) w.heap.size (by rfl) (.tmp 115) _ 43 9 5 rfl Try.underlying43 Try.underlying9 info5 u7 x7_1 ((t451 ++ t452) ++ t454) rfl rfl ?aO ?aB ?aS ?aL ?_
                    (case aB => exact (by repeat (first | (with_reducible first | exact HB.out | apply below_alloc | apply pw_below_drewN | apply below_drew1 | refine below_set ?_ GE439.out) | exact HB.out)))
                    (case aO => exact (Kd.own_of_R (by (with_reducible repeat (first | apply Kd.R_alloc | apply Kd.R_drewN | apply Kd.R_drew)); exact HO_7.out)))
                    (case aS => exact (below_size (by repeat (first | (with_reducible first | exact HB.out | apply below_alloc | apply pw_below_drewN | apply below_drew1 | refine below_set ?_ GE439.out) | exact HB.out))))
                    (case aL => have := LMc39.out; omega)
                    intro v456 w53 ho0 hb hg
                    have ho := Kd.R_of_own (h1 := fun _ => rfl) (ok := fun _ => True) ho0 (fun _ _ => trivial)
                    clear ho0
                    have hat := True.intro
                    rw [← Ny455.out] at ho
                    change Kd.R (Kd.int .u8) 5 w53 w.heap.size (fun _ => True) v456 y455 at ho
                    have n0_ := Aside0.mk (blk_grown (g := gb439) (o := .cells #[.slice (some ad449) l0_0.length c0_0, .slice (some ad450) l0_1.length c0_1, .slice (some ad453) l0_2.length c0_2, .int .i64 a0_3] 42 (0, 0)) (by (with_reducible repeat (first | refine blk_drewN ?_ _ | refine blk_drew ?_ | refine blk_alloc ?_ _)); exact BK439.out) hg (Kd.R_ne HO_7.out BK439.out (by decide)))
                    have n1_ := Aside0.mk (hb)
                    have n2_ := Aside0.mk (ho)
                    clear BK439
                    clear HB
                    clear HO_7
                    have BK439 := n0_
                    have HB := n1_
                    have HO457 := n2_
                    clear n0_ n1_ n2_
                    clear ho hb hg hat
                    refine hK.out _ _ (((HB.out.cell (World.block_lt_of_cell? w _ hw453_0)).trans hw453_0)) (fun hHeld => ?_)
                    clear hK K
                    refine norm_ (a' := ?_) ?_ ?_
                    rotate_left
                    ·show Act.put _ (some 127) _ = _
                     simp only [Act.put, List.setIfInBounds_toArray, List.set_cons_zero, List.set_cons_succ, i64_w, i32_w]
                     rfl
                    refine pure_ (i := 13) (N := some 7) (v := ?_) (a' := ?_) #[true, true, true, true, true, true, true, true, true, true, true, true, true, true] rfl rfl (any_of HT_.out (by kernel_rfl)) (fun _ _ _ h => h) (Or.inl ⟨by rfl, ?_⟩) ?_ ?_
                    rotate_left
                    ·intro w'
                     go_simp
                     with_reducible rfl
                    rotate_left
                    ·simp only [Act.put, List.setIfInBounds_toArray, List.set_cons_zero, List.set_cons_succ, i64_w, i32_w]
                     rfl
                    refine done_ (done_of HT_.out (by kernel_rfl)) ?_
                    have p459 : 0 ≤ (x11_1 : Int) := of_decide_eq_true (by first | (with_reducible assumption) | assumption)
                    have q459 : x11_1 < (l0_2.length : Int) := of_decide_eq_true (by first | (with_reducible assumption) | assumption)
                    obtain ⟨ad459, e459, hx459_0⟩ := Kd.at_int HR0_2.out x11_1 p459 q459
                    obtain rfl : ad453 = ad459 := (by injection e459)
                    replace hx459_0 := (HB.out.cell (World.block_lt_of_cell? w _ hx459_0)).trans hx459_0
                    replace p459 := eq_true p459
                    replace q459 := eq_true q459
                    try go_wp2
                    go_roundg kj8
                    case measure => have := HK1.out; have := HJ3.out; have := HJ8.out; omega
                    case rel => exact ⟨(y455), (wrap64 ((wrap64 ((wrap64 ((wrap64 (x8_1 + (rd l0_0 x11_1))) + (rd l0_1 x11_1))) - 1)) + 1)), (wrap64 ((wrap64 ((rd l0_2 x11_1) + a0_3)) - (wrap64 (x8_1 + (rd l0_0 x11_1))))), (wrap64 (x10_1 + 1)), (wrap64 (x11_1 + 1)), (by first | rfl | (simp; done) | (simp [*]; done)), (by first | rfl | (simp; done) | (simp [*]; done)), (by first | rfl | (simp; done) | (simp [*]; done)), (by first | rfl | (simp; done) | (simp [*]; done)), H', ⟨by have := HK1.out; have := HJ3.out; have := HJ8.out; omega⟩, ⟨by (with_reducible repeat (first | apply Kd.R_alloc | apply Kd.R_drewN | apply Kd.R_drew)); exact HO457.out⟩, ⟨by (with_reducible repeat (first | refine blk_drewN ?_ _ | refine blk_drew ?_ | refine blk_alloc ?_ _)); exact BK439.out⟩, ⟨by repeat (first | (with_reducible first | exact HB.out | apply below_alloc | apply pw_below_drewN | apply below_drew1 | refine below_set ?_ GE439.out) | exact HB.out)⟩⟩
                   ·as_aux_lemma =>
                    rw [if_neg c48] at H
                    have c48b0 : decide (57343 < a0_3) = false := decide_eq_false c48
                    clear c48
                    have H' := Aside0.mk H
                    clear H
                    have p449 : 0 ≤ (x11_1 : Int) := of_decide_eq_true (by first | (with_reducible assumption) | assumption)
                    have q449 : x11_1 < (l0_0.length : Int) := of_decide_eq_true (by first | (with_reducible assumption) | assumption)
                    obtain ⟨ad449, e449, hx449_0⟩ := Kd.at_int HR0_0.out x11_1 p449 q449
                    cases e449
                    replace hx449_0 := (HB.out.cell (World.block_lt_of_cell? w _ hx449_0)).trans hx449_0
                    replace p449 := eq_true p449
                    replace q449 := eq_true q449
                    have p450 : 0 ≤ (x11_1 : Int) := of_decide_eq_true (by first | (with_reducible assumption) | assumption)
                    have q450 : x11_1 < (l0_1.length : Int) := of_decide_eq_true (by first | (with_reducible assumption) | assumption)
                    obtain ⟨ad450, e450, hx450_0⟩ := Kd.at_int HR0_1.out x11_1 p450 q450
                    cases e450
                    replace hx450_0 := (HB.out.cell (World.block_lt_of_cell? w _ hx450_0)).trans hx450_0
                    replace p450 := eq_true p450
                    replace q450 := eq_true q450
                    try go_wp2
                    have n0_ := Aside0.mk (Kd.R_drew HO_7.out)
                    have n1_ := Aside0.mk (blk_drew BK439.out)
                    have n2_ := Aside0.mk (below_drew1 HB.out)
                    clear HO_7
                    clear BK439
                    clear HB
                    have HO_7 := n0_
                    have BK439 := n1_
                    have HB := n2_
                    clear n0_ n1_ n2_
                    have p453 : 0 ≤ (x11_1 : Int) := of_decide_eq_true (by first | (with_reducible assumption) | assumption)
                    have q453 : x11_1 < (l0_2.length : Int) := of_decide_eq_true (by first | (with_reducible assumption) | assumption)
                    obtain ⟨ad453, e453, hx453_0⟩ := Kd.at_int HR0_2.out x11_1 p453 q453
                    have hw453_0 := hx453_0
                    cases e453
                    replace hx453_0 := (HB.out.cell (World.block_lt_of_cell? w _ hx453_0)).trans hx453_0
                    replace p453 := eq_true p453
                    replace q453 := eq_true q453
                    refine start_ (n := 14) (S := fun w' => w'.cell? (ad453.add (x11_1).toNat) = some (.int .i64 (rd l0_2 x11_1))) (ds := []) #[false, false, false, false, false, false, false, false, false, false, false, false, false, false] (by kernel_rfl) rfl rfl (((HB.out.cell (World.block_lt_of_cell? w _ hw453_0)).trans hw453_0)) (fun hHeld => ?_); refine with_tabW colophonlaw11_CmapSends.tab11 colophonlaw11_CmapSends.bits11 (fun HT_ HW_ => ?_)
                    generalize wc.drew = w54 at HO_7 BK439 HB hx453_0 hHeld ⊢
                    refine pure_ (i := 0) (N := some 115) (v := ?_) (a' := ?_) #[true, false, false, false, false, false, false, false, false, false, false, false, false, false] rfl rfl (any_of HT_.out (by kernel_rfl)) (fun _ _ _ h => h) (Or.inl ⟨by rfl, ?_⟩) ?_ ?_
                    rotate_left
                    ·intro w'
                     go_simp
                     with_reducible rfl
                    rotate_left
                    ·simp only [Act.put, List.setIfInBounds_toArray, List.set_cons_zero, List.set_cons_succ, i64_w, i32_w]
                     rfl
                    refine pure_ (i := 1) (N := some 116) (v := ?_) (a' := ?_) #[true, true, false, false, false, false, false, false, false, false, false, false, false, false] rfl rfl (any_of HT_.out (by kernel_rfl)) (fun _ _ _ h => h) (Or.inl ⟨by rfl, ?_⟩) ?_ ?_
                    rotate_left
                    ·intro w'
                     go_simp
                     with_reducible rfl
                    rotate_left
                    ·simp only [Act.put, List.setIfInBounds_toArray, List.set_cons_zero, List.set_cons_succ, i64_w, i32_w]
                     rfl
                    refine pure_ (i := 3) (N := some 118) (v := ?_) (a' := ?_) #[true, true, false, true, false, false, false, false, false, false, false, false, false, false] rfl rfl (any_of HT_.out (by kernel_rfl)) (fun _ _ _ h => h) (Or.inl ⟨by rfl, ?_⟩) ?_ ?_
                    rotate_left
                    ·intro w'
                     go_simp
                     with_reducible rfl
                    rotate_left
                    ·simp only [Act.put, List.setIfInBounds_toArray, List.set_cons_zero, List.set_cons_succ, i64_w, i32_w]
                     rfl
                    refine pure_ (i := 6) (N := some 121) (v := ?_) (a' := ?_) #[true, true, false, true, false, false, true, false, false, false, false, false, false, false] rfl rfl (any_of HT_.out (by kernel_rfl)) (fun _ _ _ h => h) (Or.inl ⟨by rfl, ?_⟩) ?_ ?_
                    rotate_left
                    ·intro w'
                     go_simp
                     with_reducible rfl
                    rotate_left
                    ·simp only [Act.put, List.setIfInBounds_toArray, List.set_cons_zero, List.set_cons_succ, i64_w, i32_w]
                     rfl
                    refine pure_ (i := 7) (N := some 122) (v := ?_) (a' := ?_) #[true, true, false, true, false, false, true, true, false, false, false, false, false, false] rfl rfl (any_of HT_.out (by kernel_rfl)) (fun _ _ _ h => h) (Or.inl ⟨by rfl, ?_⟩) ?_ ?_
                    rotate_left
                    ·intro w'
                     go_simp
                     with_reducible rfl
                    rotate_left
                    ·simp only [Act.put, List.setIfInBounds_toArray, List.set_cons_zero, List.set_cons_succ, i64_w, i32_w]
                     rfl
                    refine pure_ (i := 8) (N := some 123) (v := ?_) (a' := ?_) #[true, true, false, true, false, false, true, true, true, false, false, false, false, false] rfl rfl (any_of HT_.out (by kernel_rfl)) (fun _ _ _ h => h) (Or.inl ⟨by rfl, ?_⟩) ?_ ?_
                    rotate_left
                    ·intro w'
                     go_simp
                     with_reducible rfl
                    rotate_left
                    ·simp only [Act.put, List.setIfInBounds_toArray, List.set_cons_zero, List.set_cons_succ, i64_w, i32_w]
                     rfl
                    refine take_ (i := 9) (N := some 124) (v := ?_) (a' := ?_) #[true, true, false, true, false, false, true, true, true, true, false, false, false, false] rfl rfl (take_ofW HT_.out HW_.out (by kernel_rfl)) (fun _ _ _ h => h) (Or.inl ⟨by rfl, ?_⟩) hHeld ?_ ?_
                    rotate_left
                    ·intro w' s0
                     go_simp
                     with_reducible rfl
                    rotate_left
                    ·simp only [Act.put, List.setIfInBounds_toArray, List.set_cons_zero, List.set_cons_succ, i64_w, i32_w]
                     rfl
                    refine one_ (i := 2) (N := some 117) #[true, true, true, true, false, false, true, true, true, true, false, false, false, false] rfl rfl (one_of HT_.out (by kernel_rfl)) (by decide) (fun K hK => ?_)
                    refine goes_ Try.func18 (by kernel_rfl) rfl #[.int .i64 (wrap64 (x8_1 + (rd l0_0 x11_1)))] (by rfl) rfl rfl (by (try simp only [List.map_toArray, List.map_cons, List.map_nil]); first | done | rfl | (simp only [List.length_drop, List.length_take]; rfl)) ?_
                    with_reducible refine (colophonlaw11_four.calls (wrap64 (x8_1 + (rd l0_0 x11_1))) t451 _ A33.out).mono ?_
                    rintro e w55 ⟨rfl, hb⟩
                    refine ⟨_, rfl, ?_⟩
                    have n0_ := Aside0.mk (Kd.R_below (by (with_reducible repeat (first | apply Kd.R_alloc | apply Kd.R_drewN | apply Kd.R_drew)); exact HO_7.out) hb)
                    have n1_ := Aside0.mk (blk_below (g := gb439) (o := .cells #[.slice (some ad449) l0_0.length c0_0, .slice (some ad450) l0_1.length c0_1, .slice (some ad453) l0_2.length c0_2, .int .i64 a0_3] 42 (0, 0)) (by (with_reducible repeat (first | refine blk_drewN ?_ _ | refine blk_drew ?_ | refine blk_alloc ?_ _)); exact BK439.out) hb)
                    have n2_ := Aside0.mk (below_step (by repeat (first | (with_reducible first | exact HB.out | apply below_alloc | apply pw_below_drewN | apply below_drew1 | refine below_set ?_ GE439.out) | exact HB.out)) hb)
                    clear HO_7
                    clear BK439
                    clear HB
                    have HO_7 := n0_
                    have BK439 := n1_
                    have HB := n2_
                    clear n0_ n1_ n2_
                    (try clear hb)
                    (try clear hb2)
                    (try clear hk)
                    (try clear hi)
                    refine hK.out _ _ (((HB.out.cell (World.block_lt_of_cell? w _ hw453_0)).trans hw453_0)) (fun hHeld => ?_)
                    clear hK K
                    refine norm_ (a' := ?_) ?_ ?_
                    rotate_left
                    ·show Act.put _ (some 117) _ = _
                     simp only [Act.put, List.setIfInBounds_toArray, List.set_cons_zero, List.set_cons_succ, i64_w, i32_w]
                     rfl
                    refine one_ (i := 4) (N := some 119) #[true, true, true, true, true, false, true, true, true, true, false, false, false, false] rfl rfl (one_of HT_.out (by kernel_rfl)) (by decide) (fun K hK => ?_)
                    refine goes_ Try.func18 (by kernel_rfl) rfl #[.int .i64 (wrap64 ((wrap64 ((wrap64 (x8_1 + (rd l0_0 x11_1))) + (rd l0_1 x11_1))) - 1))] (by rfl) rfl rfl (by (try simp only [List.map_toArray, List.map_cons, List.map_nil]); first | done | rfl | (simp only [List.length_drop, List.length_take]; rfl)) ?_
                    with_reducible refine (colophonlaw11_four.calls (wrap64 ((wrap64 ((wrap64 (x8_1 + (rd l0_0 x11_1))) + (rd l0_1 x11_1))) - 1)) t452 _ A34.out).mono ?_
                    rintro e w56 ⟨rfl, hb⟩
                    refine ⟨_, rfl, ?_⟩
                    have n0_ := Aside0.mk (Kd.R_below (by (with_reducible repeat (first | apply Kd.R_alloc | apply Kd.R_drewN | apply Kd.R_drew)); exact HO_7.out) hb)
                    have n1_ := Aside0.mk (blk_below (g := gb439) (o := .cells #[.slice (some ad449) l0_0.length c0_0, .slice (some ad450) l0_1.length c0_1, .slice (some ad453) l0_2.length c0_2, .int .i64 a0_3] 42 (0, 0)) (by (with_reducible repeat (first | refine blk_drewN ?_ _ | refine blk_drew ?_ | refine blk_alloc ?_ _)); exact BK439.out) hb)
                    have n2_ := Aside0.mk (below_step (by repeat (first | (with_reducible first | exact HB.out | apply below_alloc | apply pw_below_drewN | apply below_drew1 | refine below_set ?_ GE439.out) | exact HB.out)) hb)
                    clear HO_7
                    clear BK439
                    clear HB
                    have HO_7 := n0_
                    have BK439 := n1_
                    have HB := n2_
                    clear n0_ n1_ n2_
                    (try clear hb)
                    (try clear hb2)
                    (try clear hk)
                    (try clear hi)
                    refine hK.out _ _ (((HB.out.cell (World.block_lt_of_cell? w _ hw453_0)).trans hw453_0)) (fun hHeld => ?_)
                    clear hK K
                    refine norm_ (a' := ?_) ?_ ?_
                    rotate_left
                    ·show Act.put _ (some 119) _ = _
                     simp only [Act.put, List.setIfInBounds_toArray, List.set_cons_zero, List.set_cons_succ, i64_w, i32_w]
                     rfl
                    refine pure_ (i := 5) (N := some 120) (v := ?_) (a' := ?_) #[true, true, true, true, true, true, true, true, true, true, false, false, false, false] rfl rfl (any_of HT_.out (by kernel_rfl)) (fun _ _ _ h => h) (Or.inl ⟨by rfl, ?_⟩) ?_ ?_
                    rotate_left
                    ·intro w'
                     go_simp
                     with_reducible rfl
                    rotate_left
                    ·simp only [Act.put, List.setIfInBounds_toArray, List.set_cons_zero, List.set_cons_succ, i64_w, i32_w]
                     rfl
                    refine one_ (i := 10) (N := some 125) #[true, true, true, true, true, true, true, true, true, true, true, false, false, false] rfl rfl (one_of HT_.out (by kernel_rfl)) (by decide) (fun K hK => ?_)
                    refine goes_ Try.func18 (by kernel_rfl) rfl #[.int .i64 (rd l0_2 x11_1)] (by rfl) rfl rfl (by (try simp only [List.map_toArray, List.map_cons, List.map_nil]); first | done | rfl | (simp only [List.length_drop, List.length_take]; rfl)) ?_
                    with_reducible refine (colophonlaw11_four.calls (rd l0_2 x11_1) t454 _ A37.out).mono ?_
                    rintro e w57 ⟨rfl, hb⟩
                    refine ⟨_, rfl, ?_⟩
                    have n0_ := Aside0.mk (Kd.R_below (by (with_reducible repeat (first | apply Kd.R_alloc | apply Kd.R_drewN | apply Kd.R_drew)); exact HO_7.out) hb)
                    have n1_ := Aside0.mk (blk_below (g := gb439) (o := .cells #[.slice (some ad449) l0_0.length c0_0, .slice (some ad450) l0_1.length c0_1, .slice (some ad453) l0_2.length c0_2, .int .i64 a0_3] 42 (0, 0)) (by (with_reducible repeat (first | refine blk_drewN ?_ _ | refine blk_drew ?_ | refine blk_alloc ?_ _)); exact BK439.out) hb)
                    have n2_ := Aside0.mk (below_step (by repeat (first | (with_reducible first | exact HB.out | apply below_alloc | apply pw_below_drewN | apply below_drew1 | refine below_set ?_ GE439.out) | exact HB.out)) hb)
                    clear HO_7
                    clear BK439
                    clear HB
                    have HO_7 := n0_
                    have BK439 := n1_
                    have HB := n2_
                    clear n0_ n1_ n2_
                    (try clear hb)
                    (try clear hb2)
                    (try clear hk)
                    (try clear hi)
                    refine hK.out _ _ (((HB.out.cell (World.block_lt_of_cell? w _ hw453_0)).trans hw453_0)) (fun hHeld => ?_)
                    clear hK K
                    refine norm_ (a' := ?_) ?_ ?_
                    rotate_left
                    ·show Act.put _ (some 125) _ = _
                     simp only [Act.put, List.setIfInBounds_toArray, List.set_cons_zero, List.set_cons_succ, i64_w, i32_w]
                     rfl
                    refine pure_ (i := 11) (N := some 126) (v := ?_) (a' := ?_) #[true, true, true, true, true, true, true, true, true, true, true, true, false, false] rfl rfl (any_of HT_.out (by kernel_rfl)) (fun _ _ _ h => h) (Or.inl ⟨by rfl, ?_⟩) ?_ ?_
                    rotate_left
                    ·intro w'
                     go_simp
                     with_reducible rfl
                    rotate_left
                    ·simp only [Act.put, List.setIfInBounds_toArray, List.set_cons_zero, List.set_cons_succ, i64_w, i32_w]
                     rfl
                    refine one_ (i := 12) (N := some 127) #[true, true, true, true, true, true, true, true, true, true, true, true, true, false] rfl rfl (one_of HT_.out (by kernel_rfl)) (by decide) (fun K hK => ?_)
                    refine pw_append_str_step (w0 := w) w.heap.size (by rfl) (.tmp 115) _ 43 9 5 rfl Try.underlying43 Try.underlying9 info5 u7 x7_1 ((t451 ++ t452) ++ t454) rfl rfl ?aO ?aB ?aS ?aL ?_
                    (case aB => exact (by repeat (first | (with_reducible first | exact HB.out | apply below_alloc | apply pw_below_drewN | apply below_drew1 | refine below_set ?_ GE439.out) | exact HB.out)))
                    (case aO => exact (Kd.own_of_R (by (with_reducible repeat (first | apply Kd.R_alloc | apply Kd.R_drewN | apply Kd.R_drew)); exact HO_7.out)))
                    (case aS => exact (below_size (by repeat (first | (with_reducible first | exact HB.out | apply below_alloc | apply pw_below_drewN | apply below_drew1 | refine below_set ?_ GE439.out) | exact HB.out))))
                    (case aL => have := LMc39.out; omega)
                    intro v456 w58 ho0 hb hg
                    have ho := Kd.R_of_own (h1 := fun _ => rfl) (ok := fun _ => True) ho0 (fun _ _ => trivial)
                    clear ho0
                    have hat := True.intro
                    rw [← Ny455.out] at ho
                    change Kd.R (Kd.int .u8) 5 w58 w.heap.size (fun _ => True) v456 y455 at ho
                    have n0_ := Aside0.mk (blk_grown (g := gb439) (o := .cells #[.slice (some ad449) l0_0.length c0_0, .slice (some ad450) l0_1.length c0_1, .slice (some ad453) l0_2.length c0_2, .int .i64 a0_3] 42 (0, 0)) (by (with_reducible repeat (first | refine blk_drewN ?_ _ | refine blk_drew ?_ | refine blk_alloc ?_ _)); exact BK439.out) hg (Kd.R_ne HO_7.out BK439.out (by decide)))
                    have n1_ := Aside0.mk (hb)
                    have n2_ := Aside0.mk (ho)
                    clear BK439
                    clear HB
                    clear HO_7
                    have BK439 := n0_
                    have HB := n1_
                    have HO457 := n2_
                    clear n0_ n1_ n2_
                    clear ho hb hg hat
                    refine hK.out _ _ (((HB.out.cell (World.block_lt_of_cell? w _ hw453_0)).trans hw453_0)) (fun hHeld => ?_)
                    clear hK K
                    refine norm_ (a' := ?_) ?_ ?_
                    rotate_left
                    ·show Act.put _ (some 127) _ = _
                     simp only [Act.put, List.setIfInBounds_toArray, List.set_cons_zero, List.set_cons_succ, i64_w, i32_w]
                     rfl
                    refine pure_ (i := 13) (N := some 7) (v := ?_) (a' := ?_) #[true, true, true, true, true, true, true, true, true, true, true, true, true, true] rfl rfl (any_of HT_.out (by kernel_rfl)) (fun _ _ _ h => h) (Or.inl ⟨by rfl, ?_⟩) ?_ ?_
                    rotate_left
                    ·intro w'
                     go_simp
                     with_reducible rfl
                    rotate_left
                    ·simp only [Act.put, List.setIfInBounds_toArray, List.set_cons_zero, List.set_cons_succ, i64_w, i32_w]
                     rfl
                    refine done_ (done_of HT_.out (by kernel_rfl)) ?_
                    try go_wp2
                    go_roundg kj8
                    case measure => have := HK1.out; have := HJ3.out; have := HJ8.out; omega
                    case rel => exact ⟨(y455), (wrap64 ((wrap64 ((wrap64 ((wrap64 (x8_1 + (rd l0_0 x11_1))) + (rd l0_1 x11_1))) - 1)) + 1)), (x9_1), (wrap64 (x10_1 + 1)), (wrap64 (x11_1 + 1)), (by first | rfl | (simp; done) | (simp [*]; done)), (by first | rfl | (simp; done) | (simp [*]; done)), (by first | rfl | (simp; done) | (simp [*]; done)), (by first | rfl | (simp; done) | (simp [*]; done)), H', ⟨by have := HK1.out; have := HJ3.out; have := HJ8.out; omega⟩, ⟨by (with_reducible repeat (first | apply Kd.R_alloc | apply Kd.R_drewN | apply Kd.R_drew)); exact HO457.out⟩, ⟨by (with_reducible repeat (first | refine blk_drewN ?_ _ | refine blk_drew ?_ | refine blk_alloc ?_ _)); exact BK439.out⟩, ⟨by repeat (first | (with_reducible first | exact HB.out | apply below_alloc | apply pw_below_drewN | apply below_drew1 | refine below_set ?_ GE439.out) | exact HB.out)⟩⟩
                 ·as_aux_lemma =>
                  rw [if_neg c41] at H
                  have c41b0 : decide (a0_3 ≤ (wrap64 ((wrap64 ((wrap64 (x8_1 + (rd l0_0 x11_1))) + (rd l0_1 x11_1))) - 1))) = false := decide_eq_false c41
                  (try (have c41b0w := c41b0; ((first | rw [pw_wdiv _ _ (by omega) (by omega)] at c41b0w | rw [pw_wdiv' _ _ (by omega) (by omega)] at c41b0w | rw [Go.IntWalk.wrap64_in _ (by omega)] at c41b0w); repeat (first | rw [pw_wdiv _ _ (by omega) (by omega)] at c41b0w | rw [pw_wdiv' _ _ (by omega) (by omega)] at c41b0w | rw [Go.IntWalk.wrap64_in _ (by omega)] at c41b0w))))
                  clear c41
                  have H' := Aside0.mk H
                  clear H
                  have p449 : 0 ≤ (x11_1 : Int) := of_decide_eq_true (by first | (with_reducible assumption) | assumption)
                  have q449 : x11_1 < (l0_0.length : Int) := of_decide_eq_true (by first | (with_reducible assumption) | assumption)
                  obtain ⟨ad449, e449, hx449_0⟩ := Kd.at_int HR0_0.out x11_1 p449 q449
                  cases e449
                  replace hx449_0 := (HB.out.cell (World.block_lt_of_cell? w _ hx449_0)).trans hx449_0
                  replace p449 := eq_true p449
                  replace q449 := eq_true q449
                  have p450 : 0 ≤ (x11_1 : Int) := of_decide_eq_true (by first | (with_reducible assumption) | assumption)
                  have q450 : x11_1 < (l0_1.length : Int) := of_decide_eq_true (by first | (with_reducible assumption) | assumption)
                  obtain ⟨ad450, e450, hx450_0⟩ := Kd.at_int HR0_1.out x11_1 p450 q450
                  cases e450
                  replace hx450_0 := (HB.out.cell (World.block_lt_of_cell? w _ hx450_0)).trans hx450_0
                  replace p450 := eq_true p450
                  replace q450 := eq_true q450
                  try go_wp2
                  have n0_ := Aside0.mk (Kd.R_drew HO_7.out)
                  have n1_ := Aside0.mk (blk_drew BK439.out)
                  have n2_ := Aside0.mk (below_drew1 HB.out)
                  clear HO_7
                  clear BK439
                  clear HB
                  have HO_7 := n0_
                  have BK439 := n1_
                  have HB := n2_
                  clear n0_ n1_ n2_
                  have p453 : 0 ≤ (x11_1 : Int) := of_decide_eq_true (by first | (with_reducible assumption) | assumption)
                  have q453 : x11_1 < (l0_2.length : Int) := of_decide_eq_true (by first | (with_reducible assumption) | assumption)
                  obtain ⟨ad453, e453, hx453_0⟩ := Kd.at_int HR0_2.out x11_1 p453 q453
                  have hw453_0 := hx453_0
                  cases e453
                  replace hx453_0 := (HB.out.cell (World.block_lt_of_cell? w _ hx453_0)).trans hx453_0
                  replace p453 := eq_true p453
                  replace q453 := eq_true q453
                  refine start_ (n := 14) (S := fun w' => w'.cell? (ad453.add (x11_1).toNat) = some (.int .i64 (rd l0_2 x11_1))) (ds := []) #[false, false, false, false, false, false, false, false, false, false, false, false, false, false] (by kernel_rfl) rfl rfl (((HB.out.cell (World.block_lt_of_cell? w _ hw453_0)).trans hw453_0)) (fun hHeld => ?_); refine with_tabW colophonlaw11_CmapSends.tab11 colophonlaw11_CmapSends.bits11 (fun HT_ HW_ => ?_)
                  generalize wc.drew = w59 at HO_7 BK439 HB hx453_0 hHeld ⊢
                  refine pure_ (i := 0) (N := some 115) (v := ?_) (a' := ?_) #[true, false, false, false, false, false, false, false, false, false, false, false, false, false] rfl rfl (any_of HT_.out (by kernel_rfl)) (fun _ _ _ h => h) (Or.inl ⟨by rfl, ?_⟩) ?_ ?_
                  rotate_left
                  ·intro w'
                   go_simp
                   with_reducible rfl
                  rotate_left
                  ·simp only [Act.put, List.setIfInBounds_toArray, List.set_cons_zero, List.set_cons_succ, i64_w, i32_w]
                   rfl
                  refine pure_ (i := 1) (N := some 116) (v := ?_) (a' := ?_) #[true, true, false, false, false, false, false, false, false, false, false, false, false, false] rfl rfl (any_of HT_.out (by kernel_rfl)) (fun _ _ _ h => h) (Or.inl ⟨by rfl, ?_⟩) ?_ ?_
                  rotate_left
                  ·intro w'
                   go_simp
                   with_reducible rfl
                  rotate_left
                  ·simp only [Act.put, List.setIfInBounds_toArray, List.set_cons_zero, List.set_cons_succ, i64_w, i32_w]
                   rfl
                  refine pure_ (i := 3) (N := some 118) (v := ?_) (a' := ?_) #[true, true, false, true, false, false, false, false, false, false, false, false, false, false] rfl rfl (any_of HT_.out (by kernel_rfl)) (fun _ _ _ h => h) (Or.inl ⟨by rfl, ?_⟩) ?_ ?_
                  rotate_left
                  ·intro w'
                   go_simp
                   with_reducible rfl
                  rotate_left
                  ·simp only [Act.put, List.setIfInBounds_toArray, List.set_cons_zero, List.set_cons_succ, i64_w, i32_w]
                   rfl
                  refine pure_ (i := 6) (N := some 121) (v := ?_) (a' := ?_) #[true, true, false, true, false, false, true, false, false, false, false, false, false, false] rfl rfl (any_of HT_.out (by kernel_rfl)) (fun _ _ _ h => h) (Or.inl ⟨by rfl, ?_⟩) ?_ ?_
                  rotate_left
                  ·intro w'
                   go_simp
                   with_reducible rfl
                  rotate_left
                  ·simp only [Act.put, List.setIfInBounds_toArray, List.set_cons_zero, List.set_cons_succ, i64_w, i32_w]
                   rfl
                  refine pure_ (i := 7) (N := some 122) (v := ?_) (a' := ?_) #[true, true, false, true, false, false, true, true, false, false, false, false, false, false] rfl rfl (any_of HT_.out (by kernel_rfl)) (fun _ _ _ h => h) (Or.inl ⟨by rfl, ?_⟩) ?_ ?_
                  rotate_left
                  ·intro w'
                   go_simp
                   with_reducible rfl
                  rotate_left
                  ·simp only [Act.put, List.setIfInBounds_toArray, List.set_cons_zero, List.set_cons_succ, i64_w, i32_w]
                   rfl
                  refine pure_ (i := 8) (N := some 123) (v := ?_) (a' := ?_) #[true, true, false, true, false, false, true, true, true, false, false, false, false, false] rfl rfl (any_of HT_.out (by kernel_rfl)) (fun _ _ _ h => h) (Or.inl ⟨by rfl, ?_⟩) ?_ ?_
                  rotate_left
                  ·intro w'
                   go_simp
                   with_reducible rfl
                  rotate_left
                  ·simp only [Act.put, List.setIfInBounds_toArray, List.set_cons_zero, List.set_cons_succ, i64_w, i32_w]
                   rfl
                  refine take_ (i := 9) (N := some 124) (v := ?_) (a' := ?_) #[true, true, false, true, false, false, true, true, true, true, false, false, false, false] rfl rfl (take_ofW HT_.out HW_.out (by kernel_rfl)) (fun _ _ _ h => h) (Or.inl ⟨by rfl, ?_⟩) hHeld ?_ ?_
                  rotate_left
                  ·intro w' s0
                   go_simp
                   with_reducible rfl
                  rotate_left
                  ·simp only [Act.put, List.setIfInBounds_toArray, List.set_cons_zero, List.set_cons_succ, i64_w, i32_w]
                   rfl
                  refine one_ (i := 2) (N := some 117) #[true, true, true, true, false, false, true, true, true, true, false, false, false, false] rfl rfl (one_of HT_.out (by kernel_rfl)) (by decide) (fun K hK => ?_)
                  refine goes_ Try.func18 (by kernel_rfl) rfl #[.int .i64 (wrap64 (x8_1 + (rd l0_0 x11_1)))] (by rfl) rfl rfl (by (try simp only [List.map_toArray, List.map_cons, List.map_nil]); first | done | rfl | (simp only [List.length_drop, List.length_take]; rfl)) ?_
                  with_reducible refine (colophonlaw11_four.calls (wrap64 (x8_1 + (rd l0_0 x11_1))) t451 _ A33.out).mono ?_
                  rintro e w60 ⟨rfl, hb⟩
                  refine ⟨_, rfl, ?_⟩
                  have n0_ := Aside0.mk (Kd.R_below (by (with_reducible repeat (first | apply Kd.R_alloc | apply Kd.R_drewN | apply Kd.R_drew)); exact HO_7.out) hb)
                  have n1_ := Aside0.mk (blk_below (g := gb439) (o := .cells #[.slice (some ad449) l0_0.length c0_0, .slice (some ad450) l0_1.length c0_1, .slice (some ad453) l0_2.length c0_2, .int .i64 a0_3] 42 (0, 0)) (by (with_reducible repeat (first | refine blk_drewN ?_ _ | refine blk_drew ?_ | refine blk_alloc ?_ _)); exact BK439.out) hb)
                  have n2_ := Aside0.mk (below_step (by repeat (first | (with_reducible first | exact HB.out | apply below_alloc | apply pw_below_drewN | apply below_drew1 | refine below_set ?_ GE439.out) | exact HB.out)) hb)
                  clear HO_7
                  clear BK439
                  clear HB
                  have HO_7 := n0_
                  have BK439 := n1_
                  have HB := n2_
                  clear n0_ n1_ n2_
                  (try clear hb)
                  (try clear hb2)
                  (try clear hk)
                  (try clear hi)
                  refine hK.out _ _ (((HB.out.cell (World.block_lt_of_cell? w _ hw453_0)).trans hw453_0)) (fun hHeld => ?_)
                  clear hK K
                  refine norm_ (a' := ?_) ?_ ?_
                  rotate_left
                  ·show Act.put _ (some 117) _ = _
                   simp only [Act.put, List.setIfInBounds_toArray, List.set_cons_zero, List.set_cons_succ, i64_w, i32_w]
                   rfl
                  refine one_ (i := 4) (N := some 119) #[true, true, true, true, true, false, true, true, true, true, false, false, false, false] rfl rfl (one_of HT_.out (by kernel_rfl)) (by decide) (fun K hK => ?_)
                  refine goes_ Try.func18 (by kernel_rfl) rfl #[.int .i64 (wrap64 ((wrap64 ((wrap64 (x8_1 + (rd l0_0 x11_1))) + (rd l0_1 x11_1))) - 1))] (by rfl) rfl rfl (by (try simp only [List.map_toArray, List.map_cons, List.map_nil]); first | done | rfl | (simp only [List.length_drop, List.length_take]; rfl)) ?_
                  with_reducible refine (colophonlaw11_four.calls (wrap64 ((wrap64 ((wrap64 (x8_1 + (rd l0_0 x11_1))) + (rd l0_1 x11_1))) - 1)) t452 _ A34.out).mono ?_
                  rintro e w61 ⟨rfl, hb⟩
                  refine ⟨_, rfl, ?_⟩
                  have n0_ := Aside0.mk (Kd.R_below (by (with_reducible repeat (first | apply Kd.R_alloc | apply Kd.R_drewN | apply Kd.R_drew)); exact HO_7.out) hb)
                  have n1_ := Aside0.mk (blk_below (g := gb439) (o := .cells #[.slice (some ad449) l0_0.length c0_0, .slice (some ad450) l0_1.length c0_1, .slice (some ad453) l0_2.length c0_2, .int .i64 a0_3] 42 (0, 0)) (by (with_reducible repeat (first | refine blk_drewN ?_ _ | refine blk_drew ?_ | refine blk_alloc ?_ _)); exact BK439.out) hb)
                  have n2_ := Aside0.mk (below_step (by repeat (first | (with_reducible first | exact HB.out | apply below_alloc | apply pw_below_drewN | apply below_drew1 | refine below_set ?_ GE439.out) | exact HB.out)) hb)
                  clear HO_7
                  clear BK439
                  clear HB
                  have HO_7 := n0_
                  have BK439 := n1_
                  have HB := n2_
                  clear n0_ n1_ n2_
                  (try clear hb)
                  (try clear hb2)
                  (try clear hk)
                  (try clear hi)
                  refine hK.out _ _ (((HB.out.cell (World.block_lt_of_cell? w _ hw453_0)).trans hw453_0)) (fun hHeld => ?_)
                  clear hK K
                  refine norm_ (a' := ?_) ?_ ?_
                  rotate_left
                  ·show Act.put _ (some 119) _ = _
                   simp only [Act.put, List.setIfInBounds_toArray, List.set_cons_zero, List.set_cons_succ, i64_w, i32_w]
                   rfl
                  refine pure_ (i := 5) (N := some 120) (v := ?_) (a' := ?_) #[true, true, true, true, true, true, true, true, true, true, false, false, false, false] rfl rfl (any_of HT_.out (by kernel_rfl)) (fun _ _ _ h => h) (Or.inl ⟨by rfl, ?_⟩) ?_ ?_
                  rotate_left
                  ·intro w'
                   go_simp
                   with_reducible rfl
                  rotate_left
                  ·simp only [Act.put, List.setIfInBounds_toArray, List.set_cons_zero, List.set_cons_succ, i64_w, i32_w]
                   rfl
                  refine one_ (i := 10) (N := some 125) #[true, true, true, true, true, true, true, true, true, true, true, false, false, false] rfl rfl (one_of HT_.out (by kernel_rfl)) (by decide) (fun K hK => ?_)
                  refine goes_ Try.func18 (by kernel_rfl) rfl #[.int .i64 (rd l0_2 x11_1)] (by rfl) rfl rfl (by (try simp only [List.map_toArray, List.map_cons, List.map_nil]); first | done | rfl | (simp only [List.length_drop, List.length_take]; rfl)) ?_
                  with_reducible refine (colophonlaw11_four.calls (rd l0_2 x11_1) t454 _ A37.out).mono ?_
                  rintro e w62 ⟨rfl, hb⟩
                  refine ⟨_, rfl, ?_⟩
                  have n0_ := Aside0.mk (Kd.R_below (by (with_reducible repeat (first | apply Kd.R_alloc | apply Kd.R_drewN | apply Kd.R_drew)); exact HO_7.out) hb)
                  have n1_ := Aside0.mk (blk_below (g := gb439) (o := .cells #[.slice (some ad449) l0_0.length c0_0, .slice (some ad450) l0_1.length c0_1, .slice (some ad453) l0_2.length c0_2, .int .i64 a0_3] 42 (0, 0)) (by (with_reducible repeat (first | refine blk_drewN ?_ _ | refine blk_drew ?_ | refine blk_alloc ?_ _)); exact BK439.out) hb)
                  have n2_ := Aside0.mk (below_step (by repeat (first | (with_reducible first | exact HB.out | apply below_alloc | apply pw_below_drewN | apply below_drew1 | refine below_set ?_ GE439.out) | exact HB.out)) hb)
                  clear HO_7
                  clear BK439
                  clear HB
                  have HO_7 := n0_
                  have BK439 := n1_
                  have HB := n2_
                  clear n0_ n1_ n2_
                  (try clear hb)
                  (try clear hb2)
                  (try clear hk)
                  (try clear hi)
                  refine hK.out _ _ (((HB.out.cell (World.block_lt_of_cell? w _ hw453_0)).trans hw453_0)) (fun hHeld => ?_)
                  clear hK K
                  refine norm_ (a' := ?_) ?_ ?_
                  rotate_left
                  ·show Act.put _ (some 125) _ = _
                   simp only [Act.put, List.setIfInBounds_toArray, List.set_cons_zero, List.set_cons_succ, i64_w, i32_w]
                   rfl
                  refine pure_ (i := 11) (N := some 126) (v := ?_) (a' := ?_) #[true, true, true, true, true, true, true, true, true, true, true, true, false, false] rfl rfl (any_of HT_.out (by kernel_rfl)) (fun _ _ _ h => h) (Or.inl ⟨by rfl, ?_⟩) ?_ ?_
                  rotate_left
                  ·intro w'
                   go_simp
                   with_reducible rfl
                  rotate_left
                  ·simp only [Act.put, List.setIfInBounds_toArray, List.set_cons_zero, List.set_cons_succ, i64_w, i32_w]
                   rfl
                  refine one_ (i := 12) (N := some 127) #[true, true, true, true, true, true, true, true, true, true, true, true, true, false] rfl rfl (one_of HT_.out (by kernel_rfl)) (by decide) (fun K hK => ?_)
                  refine pw_append_str_step (w0 := w) w.heap.size (by rfl) (.tmp 115) _ 43 9 5 rfl Try.underlying43 Try.underlying9 info5 u7 x7_1 ((t451 ++ t452) ++ t454) rfl rfl ?aO ?aB ?aS ?aL ?_
                  (case aB => exact (by repeat (first | (with_reducible first | exact HB.out | apply below_alloc | apply pw_below_drewN | apply below_drew1 | refine below_set ?_ GE439.out) | exact HB.out)))
                  (case aO => exact (Kd.own_of_R (by (with_reducible repeat (first | apply Kd.R_alloc | apply Kd.R_drewN | apply Kd.R_drew)); exact HO_7.out)))
                  (case aS => exact (below_size (by repeat (first | (with_reducible first | exact HB.out | apply below_alloc | apply pw_below_drewN | apply below_drew1 | refine below_set ?_ GE439.out) | exact HB.out))))
                  (case aL => have := LMc39.out; omega)
                  intro v456 w63 ho0 hb hg
                  have ho := Kd.R_of_own (h1 := fun _ => rfl) (ok := fun _ => True) ho0 (fun _ _ => trivial)
                  clear ho0
                  have hat := True.intro
                  rw [← Ny455.out] at ho
                  change Kd.R (Kd.int .u8) 5 w63 w.heap.size (fun _ => True) v456 y455 at ho
                  have n0_ := Aside0.mk (blk_grown (g := gb439) (o := .cells #[.slice (some ad449) l0_0.length c0_0, .slice (some ad450) l0_1.length c0_1, .slice (some ad453) l0_2.length c0_2, .int .i64 a0_3] 42 (0, 0)) (by (with_reducible repeat (first | refine blk_drewN ?_ _ | refine blk_drew ?_ | refine blk_alloc ?_ _)); exact BK439.out) hg (Kd.R_ne HO_7.out BK439.out (by decide)))
                  have n1_ := Aside0.mk (hb)
                  have n2_ := Aside0.mk (ho)
                  clear BK439
                  clear HB
                  clear HO_7
                  have BK439 := n0_
                  have HB := n1_
                  have HO457 := n2_
                  clear n0_ n1_ n2_
                  clear ho hb hg hat
                  refine hK.out _ _ (((HB.out.cell (World.block_lt_of_cell? w _ hw453_0)).trans hw453_0)) (fun hHeld => ?_)
                  clear hK K
                  refine norm_ (a' := ?_) ?_ ?_
                  rotate_left
                  ·show Act.put _ (some 127) _ = _
                   simp only [Act.put, List.setIfInBounds_toArray, List.set_cons_zero, List.set_cons_succ, i64_w, i32_w]
                   rfl
                  refine pure_ (i := 13) (N := some 7) (v := ?_) (a' := ?_) #[true, true, true, true, true, true, true, true, true, true, true, true, true, true] rfl rfl (any_of HT_.out (by kernel_rfl)) (fun _ _ _ h => h) (Or.inl ⟨by rfl, ?_⟩) ?_ ?_
                  rotate_left
                  ·intro w'
                   go_simp
                   with_reducible rfl
                  rotate_left
                  ·simp only [Act.put, List.setIfInBounds_toArray, List.set_cons_zero, List.set_cons_succ, i64_w, i32_w]
                   rfl
                  refine done_ (done_of HT_.out (by kernel_rfl)) ?_
                  try go_wp2
                  go_roundg kj8
                  case measure => have := HK1.out; have := HJ3.out; have := HJ8.out; omega
                  case rel => exact ⟨(y455), (wrap64 ((wrap64 ((wrap64 ((wrap64 (x8_1 + (rd l0_0 x11_1))) + (rd l0_1 x11_1))) - 1)) + 1)), (x9_1), (wrap64 (x10_1 + 1)), (wrap64 (x11_1 + 1)), (by first | rfl | (simp; done) | (simp [*]; done)), (by first | rfl | (simp; done) | (simp [*]; done)), (by first | rfl | (simp; done) | (simp [*]; done)), (by first | rfl | (simp; done) | (simp [*]; done)), H', ⟨by have := HK1.out; have := HJ3.out; have := HJ8.out; omega⟩, ⟨by (with_reducible repeat (first | apply Kd.R_alloc | apply Kd.R_drewN | apply Kd.R_drew)); exact HO457.out⟩, ⟨by (with_reducible repeat (first | refine blk_drewN ?_ _ | refine blk_drew ?_ | refine blk_alloc ?_ _)); exact BK439.out⟩, ⟨by repeat (first | (with_reducible first | exact HB.out | apply below_alloc | apply pw_below_drewN | apply below_drew1 | refine below_set ?_ GE439.out) | exact HB.out)⟩⟩
                ·as_aux_lemma =>
                 rw [if_neg c40] at H
                 have c40b0 : decide ((wrap64 (x8_1 + (rd l0_0 x11_1))) ≤ a0_3) = false := decide_eq_false c40
                 (try (have c40b0w := c40b0; ((first | rw [pw_wdiv _ _ (by omega) (by omega)] at c40b0w | rw [pw_wdiv' _ _ (by omega) (by omega)] at c40b0w | rw [Go.IntWalk.wrap64_in _ (by omega)] at c40b0w); repeat (first | rw [pw_wdiv _ _ (by omega) (by omega)] at c40b0w | rw [pw_wdiv' _ _ (by omega) (by omega)] at c40b0w | rw [Go.IntWalk.wrap64_in _ (by omega)] at c40b0w))))
                 clear c40
                 have H' := Aside0.mk H
                 clear H
                 have p449 : 0 ≤ (x11_1 : Int) := of_decide_eq_true (by first | (with_reducible assumption) | assumption)
                 have q449 : x11_1 < (l0_0.length : Int) := of_decide_eq_true (by first | (with_reducible assumption) | assumption)
                 obtain ⟨ad449, e449, hx449_0⟩ := Kd.at_int HR0_0.out x11_1 p449 q449
                 cases e449
                 replace hx449_0 := (HB.out.cell (World.block_lt_of_cell? w _ hx449_0)).trans hx449_0
                 replace p449 := eq_true p449
                 replace q449 := eq_true q449
                 have p450 : 0 ≤ (x11_1 : Int) := of_decide_eq_true (by first | (with_reducible assumption) | assumption)
                 have q450 : x11_1 < (l0_1.length : Int) := of_decide_eq_true (by first | (with_reducible assumption) | assumption)
                 obtain ⟨ad450, e450, hx450_0⟩ := Kd.at_int HR0_1.out x11_1 p450 q450
                 cases e450
                 replace hx450_0 := (HB.out.cell (World.block_lt_of_cell? w _ hx450_0)).trans hx450_0
                 replace p450 := eq_true p450
                 replace q450 := eq_true q450
                 try go_wp2
                 have n0_ := Aside0.mk (Kd.R_drew HO_7.out)
                 have n1_ := Aside0.mk (blk_drew BK439.out)
                 have n2_ := Aside0.mk (below_drew1 HB.out)
                 clear HO_7
                 clear BK439
                 clear HB
                 have HO_7 := n0_
                 have BK439 := n1_
                 have HB := n2_
                 clear n0_ n1_ n2_
                 have p453 : 0 ≤ (x11_1 : Int) := of_decide_eq_true (by first | (with_reducible assumption) | assumption)
                 have q453 : x11_1 < (l0_2.length : Int) := of_decide_eq_true (by first | (with_reducible assumption) | assumption)
                 obtain ⟨ad453, e453, hx453_0⟩ := Kd.at_int HR0_2.out x11_1 p453 q453
                 have hw453_0 := hx453_0
                 cases e453
                 replace hx453_0 := (HB.out.cell (World.block_lt_of_cell? w _ hx453_0)).trans hx453_0
                 replace p453 := eq_true p453
                 replace q453 := eq_true q453
                 refine start_ (n := 14) (S := fun w' => w'.cell? (ad453.add (x11_1).toNat) = some (.int .i64 (rd l0_2 x11_1))) (ds := []) #[false, false, false, false, false, false, false, false, false, false, false, false, false, false] (by kernel_rfl) rfl rfl (((HB.out.cell (World.block_lt_of_cell? w _ hw453_0)).trans hw453_0)) (fun hHeld => ?_); refine with_tabW colophonlaw11_CmapSends.tab11 colophonlaw11_CmapSends.bits11 (fun HT_ HW_ => ?_)
                 generalize wc.drew = w64 at HO_7 BK439 HB hx453_0 hHeld ⊢
                 refine pure_ (i := 0) (N := some 115) (v := ?_) (a' := ?_) #[true, false, false, false, false, false, false, false, false, false, false, false, false, false] rfl rfl (any_of HT_.out (by kernel_rfl)) (fun _ _ _ h => h) (Or.inl ⟨by rfl, ?_⟩) ?_ ?_
                 rotate_left
                 ·intro w'
                  go_simp
                  with_reducible rfl
                 rotate_left
                 ·simp only [Act.put, List.setIfInBounds_toArray, List.set_cons_zero, List.set_cons_succ, i64_w, i32_w]
                  rfl
                 refine pure_ (i := 1) (N := some 116) (v := ?_) (a' := ?_) #[true, true, false, false, false, false, false, false, false, false, false, false, false, false] rfl rfl (any_of HT_.out (by kernel_rfl)) (fun _ _ _ h => h) (Or.inl ⟨by rfl, ?_⟩) ?_ ?_
                 rotate_left
                 ·intro w'
                  go_simp
                  with_reducible rfl
                 rotate_left
                 ·simp only [Act.put, List.setIfInBounds_toArray, List.set_cons_zero, List.set_cons_succ, i64_w, i32_w]
                  rfl
                 refine pure_ (i := 3) (N := some 118) (v := ?_) (a' := ?_) #[true, true, false, true, false, false, false, false, false, false, false, false, false, false] rfl rfl (any_of HT_.out (by kernel_rfl)) (fun _ _ _ h => h) (Or.inl ⟨by rfl, ?_⟩) ?_ ?_
                 rotate_left
                 ·intro w'
                  go_simp
                  with_reducible rfl
                 rotate_left
                 ·simp only [Act.put, List.setIfInBounds_toArray, List.set_cons_zero, List.set_cons_succ, i64_w, i32_w]
                  rfl
                 refine pure_ (i := 6) (N := some 121) (v := ?_) (a' := ?_) #[true, true, false, true, false, false, true, false, false, false, false, false, false, false] rfl rfl (any_of HT_.out (by kernel_rfl)) (fun _ _ _ h => h) (Or.inl ⟨by rfl, ?_⟩) ?_ ?_
                 rotate_left
                 ·intro w'
                  go_simp
                  with_reducible rfl
                 rotate_left
                 ·simp only [Act.put, List.setIfInBounds_toArray, List.set_cons_zero, List.set_cons_succ, i64_w, i32_w]
                  rfl
                 refine pure_ (i := 7) (N := some 122) (v := ?_) (a' := ?_) #[true, true, false, true, false, false, true, true, false, false, false, false, false, false] rfl rfl (any_of HT_.out (by kernel_rfl)) (fun _ _ _ h => h) (Or.inl ⟨by rfl, ?_⟩) ?_ ?_
                 rotate_left
                 ·intro w'
                  go_simp
                  with_reducible rfl
                 rotate_left
                 ·simp only [Act.put, List.setIfInBounds_toArray, List.set_cons_zero, List.set_cons_succ, i64_w, i32_w]
                  rfl
                 refine pure_ (i := 8) (N := some 123) (v := ?_) (a' := ?_) #[true, true, false, true, false, false, true, true, true, false, false, false, false, false] rfl rfl (any_of HT_.out (by kernel_rfl)) (fun _ _ _ h => h) (Or.inl ⟨by rfl, ?_⟩) ?_ ?_
                 rotate_left
                 ·intro w'
                  go_simp
                  with_reducible rfl
                 rotate_left
                 ·simp only [Act.put, List.setIfInBounds_toArray, List.set_cons_zero, List.set_cons_succ, i64_w, i32_w]
                  rfl
                 refine take_ (i := 9) (N := some 124) (v := ?_) (a' := ?_) #[true, true, false, true, false, false, true, true, true, true, false, false, false, false] rfl rfl (take_ofW HT_.out HW_.out (by kernel_rfl)) (fun _ _ _ h => h) (Or.inl ⟨by rfl, ?_⟩) hHeld ?_ ?_
                 rotate_left
                 ·intro w' s0
                  go_simp
                  with_reducible rfl
                 rotate_left
                 ·simp only [Act.put, List.setIfInBounds_toArray, List.set_cons_zero, List.set_cons_succ, i64_w, i32_w]
                  rfl
                 refine one_ (i := 2) (N := some 117) #[true, true, true, true, false, false, true, true, true, true, false, false, false, false] rfl rfl (one_of HT_.out (by kernel_rfl)) (by decide) (fun K hK => ?_)
                 refine goes_ Try.func18 (by kernel_rfl) rfl #[.int .i64 (wrap64 (x8_1 + (rd l0_0 x11_1)))] (by rfl) rfl rfl (by (try simp only [List.map_toArray, List.map_cons, List.map_nil]); first | done | rfl | (simp only [List.length_drop, List.length_take]; rfl)) ?_
                 with_reducible refine (colophonlaw11_four.calls (wrap64 (x8_1 + (rd l0_0 x11_1))) t451 _ A33.out).mono ?_
                 rintro e w65 ⟨rfl, hb⟩
                 refine ⟨_, rfl, ?_⟩
                 have n0_ := Aside0.mk (Kd.R_below (by (with_reducible repeat (first | apply Kd.R_alloc | apply Kd.R_drewN | apply Kd.R_drew)); exact HO_7.out) hb)
                 have n1_ := Aside0.mk (blk_below (g := gb439) (o := .cells #[.slice (some ad449) l0_0.length c0_0, .slice (some ad450) l0_1.length c0_1, .slice (some ad453) l0_2.length c0_2, .int .i64 a0_3] 42 (0, 0)) (by (with_reducible repeat (first | refine blk_drewN ?_ _ | refine blk_drew ?_ | refine blk_alloc ?_ _)); exact BK439.out) hb)
                 have n2_ := Aside0.mk (below_step (by repeat (first | (with_reducible first | exact HB.out | apply below_alloc | apply pw_below_drewN | apply below_drew1 | refine below_set ?_ GE439.out) | exact HB.out)) hb)
                 clear HO_7
                 clear BK439
                 clear HB
                 have HO_7 := n0_
                 have BK439 := n1_
                 have HB := n2_
                 clear n0_ n1_ n2_
                 (try clear hb)
                 (try clear hb2)
                 (try clear hk)
                 (try clear hi)
                 refine hK.out _ _ (((HB.out.cell (World.block_lt_of_cell? w _ hw453_0)).trans hw453_0)) (fun hHeld => ?_)
                 clear hK K
                 refine norm_ (a' := ?_) ?_ ?_
                 rotate_left
                 ·show Act.put _ (some 117) _ = _
                  simp only [Act.put, List.setIfInBounds_toArray, List.set_cons_zero, List.set_cons_succ, i64_w, i32_w]
                  rfl
                 refine one_ (i := 4) (N := some 119) #[true, true, true, true, true, false, true, true, true, true, false, false, false, false] rfl rfl (one_of HT_.out (by kernel_rfl)) (by decide) (fun K hK => ?_)
                 refine goes_ Try.func18 (by kernel_rfl) rfl #[.int .i64 (wrap64 ((wrap64 ((wrap64 (x8_1 + (rd l0_0 x11_1))) + (rd l0_1 x11_1))) - 1))] (by rfl) rfl rfl (by (try simp only [List.map_toArray, List.map_cons, List.map_nil]); first | done | rfl | (simp only [List.length_drop, List.length_take]; rfl)) ?_
                 with_reducible refine (colophonlaw11_four.calls (wrap64 ((wrap64 ((wrap64 (x8_1 + (rd l0_0 x11_1))) + (rd l0_1 x11_1))) - 1)) t452 _ A34.out).mono ?_
                 rintro e w66 ⟨rfl, hb⟩
                 refine ⟨_, rfl, ?_⟩
                 have n0_ := Aside0.mk (Kd.R_below (by (with_reducible repeat (first | apply Kd.R_alloc | apply Kd.R_drewN | apply Kd.R_drew)); exact HO_7.out) hb)
                 have n1_ := Aside0.mk (blk_below (g := gb439) (o := .cells #[.slice (some ad449) l0_0.length c0_0, .slice (some ad450) l0_1.length c0_1, .slice (some ad453) l0_2.length c0_2, .int .i64 a0_3] 42 (0, 0)) (by (with_reducible repeat (first | refine blk_drewN ?_ _ | refine blk_drew ?_ | refine blk_alloc ?_ _)); exact BK439.out) hb)
                 have n2_ := Aside0.mk (below_step (by repeat (first | (with_reducible first | exact HB.out | apply below_alloc | apply pw_below_drewN | apply below_drew1 | refine below_set ?_ GE439.out) | exact HB.out)) hb)
                 clear HO_7
                 clear BK439
                 clear HB
                 have HO_7 := n0_
                 have BK439 := n1_
                 have HB := n2_
                 clear n0_ n1_ n2_
                 (try clear hb)
                 (try clear hb2)
                 (try clear hk)
                 (try clear hi)
                 refine hK.out _ _ (((HB.out.cell (World.block_lt_of_cell? w _ hw453_0)).trans hw453_0)) (fun hHeld => ?_)
                 clear hK K
                 refine norm_ (a' := ?_) ?_ ?_
                 rotate_left
                 ·show Act.put _ (some 119) _ = _
                  simp only [Act.put, List.setIfInBounds_toArray, List.set_cons_zero, List.set_cons_succ, i64_w, i32_w]
                  rfl
                 refine pure_ (i := 5) (N := some 120) (v := ?_) (a' := ?_) #[true, true, true, true, true, true, true, true, true, true, false, false, false, false] rfl rfl (any_of HT_.out (by kernel_rfl)) (fun _ _ _ h => h) (Or.inl ⟨by rfl, ?_⟩) ?_ ?_
                 rotate_left
                 ·intro w'
                  go_simp
                  with_reducible rfl
                 rotate_left
                 ·simp only [Act.put, List.setIfInBounds_toArray, List.set_cons_zero, List.set_cons_succ, i64_w, i32_w]
                  rfl
                 refine one_ (i := 10) (N := some 125) #[true, true, true, true, true, true, true, true, true, true, true, false, false, false] rfl rfl (one_of HT_.out (by kernel_rfl)) (by decide) (fun K hK => ?_)
                 refine goes_ Try.func18 (by kernel_rfl) rfl #[.int .i64 (rd l0_2 x11_1)] (by rfl) rfl rfl (by (try simp only [List.map_toArray, List.map_cons, List.map_nil]); first | done | rfl | (simp only [List.length_drop, List.length_take]; rfl)) ?_
                 with_reducible refine (colophonlaw11_four.calls (rd l0_2 x11_1) t454 _ A37.out).mono ?_
                 rintro e w67 ⟨rfl, hb⟩
                 refine ⟨_, rfl, ?_⟩
                 have n0_ := Aside0.mk (Kd.R_below (by (with_reducible repeat (first | apply Kd.R_alloc | apply Kd.R_drewN | apply Kd.R_drew)); exact HO_7.out) hb)
                 have n1_ := Aside0.mk (blk_below (g := gb439) (o := .cells #[.slice (some ad449) l0_0.length c0_0, .slice (some ad450) l0_1.length c0_1, .slice (some ad453) l0_2.length c0_2, .int .i64 a0_3] 42 (0, 0)) (by (with_reducible repeat (first | refine blk_drewN ?_ _ | refine blk_drew ?_ | refine blk_alloc ?_ _)); exact BK439.out) hb)
                 have n2_ := Aside0.mk (below_step (by repeat (first | (with_reducible first | exact HB.out | apply below_alloc | apply pw_below_drewN | apply below_drew1 | refine below_set ?_ GE439.out) | exact HB.out)) hb)
                 clear HO_7
                 clear BK439
                 clear HB
                 have HO_7 := n0_
                 have BK439 := n1_
                 have HB := n2_
                 clear n0_ n1_ n2_
                 (try clear hb)
                 (try clear hb2)
                 (try clear hk)
                 (try clear hi)
                 refine hK.out _ _ (((HB.out.cell (World.block_lt_of_cell? w _ hw453_0)).trans hw453_0)) (fun hHeld => ?_)
                 clear hK K
                 refine norm_ (a' := ?_) ?_ ?_
                 rotate_left
                 ·show Act.put _ (some 125) _ = _
                  simp only [Act.put, List.setIfInBounds_toArray, List.set_cons_zero, List.set_cons_succ, i64_w, i32_w]
                  rfl
                 refine pure_ (i := 11) (N := some 126) (v := ?_) (a' := ?_) #[true, true, true, true, true, true, true, true, true, true, true, true, false, false] rfl rfl (any_of HT_.out (by kernel_rfl)) (fun _ _ _ h => h) (Or.inl ⟨by rfl, ?_⟩) ?_ ?_
                 rotate_left
                 ·intro w'
                  go_simp
                  with_reducible rfl
                 rotate_left
                 ·simp only [Act.put, List.setIfInBounds_toArray, List.set_cons_zero, List.set_cons_succ, i64_w, i32_w]
                  rfl
                 refine one_ (i := 12) (N := some 127) #[true, true, true, true, true, true, true, true, true, true, true, true, true, false] rfl rfl (one_of HT_.out (by kernel_rfl)) (by decide) (fun K hK => ?_)
                 refine pw_append_str_step (w0 := w) w.heap.size (by rfl) (.tmp 115) _ 43 9 5 rfl Try.underlying43 Try.underlying9 info5 u7 x7_1 ((t451 ++ t452) ++ t454) rfl rfl ?aO ?aB ?aS ?aL ?_
                 (case aB => exact (by repeat (first | (with_reducible first | exact HB.out | apply below_alloc | apply pw_below_drewN | apply below_drew1 | refine below_set ?_ GE439.out) | exact HB.out)))
                 (case aO => exact (Kd.own_of_R (by (with_reducible repeat (first | apply Kd.R_alloc | apply Kd.R_drewN | apply Kd.R_drew)); exact HO_7.out)))
                 (case aS => exact (below_size (by repeat (first | (with_reducible first | exact HB.out | apply below_alloc | apply pw_below_drewN | apply below_drew1 | refine below_set ?_ GE439.out) | exact HB.out))))
                 (case aL => have := LMc39.out; omega)
                 intro v456 w68 ho0 hb hg
                 have ho := Kd.R_of_own (h1 := fun _ => rfl) (ok := fun _ => True) ho0 (fun _ _ => trivial)
                 clear ho0
                 have hat := True.intro
                 rw [← Ny455.out] at ho
                 change Kd.R (Kd.int .u8) 5 w68 w.heap.size (fun _ => True) v456 y455 at ho
                 have n0_ := Aside0.mk (blk_grown (g := gb439) (o := .cells #[.slice (some ad449) l0_0.length c0_0, .slice (some ad450) l0_1.length c0_1, .slice (some ad453) l0_2.length c0_2, .int .i64 a0_3] 42 (0, 0)) (by (with_reducible repeat (first | refine blk_drewN ?_ _ | refine blk_drew ?_ | refine blk_alloc ?_ _)); exact BK439.out) hg (Kd.R_ne HO_7.out BK439.out (by decide)))
                 have n1_ := Aside0.mk (hb)
                 have n2_ := Aside0.mk (ho)
                 clear BK439
                 clear HB
                 clear HO_7
                 have BK439 := n0_
                 have HB := n1_
                 have HO457 := n2_
                 clear n0_ n1_ n2_
                 clear ho hb hg hat
                 refine hK.out _ _ (((HB.out.cell (World.block_lt_of_cell? w _ hw453_0)).trans hw453_0)) (fun hHeld => ?_)
                 clear hK K
                 refine norm_ (a' := ?_) ?_ ?_
                 rotate_left
                 ·show Act.put _ (some 127) _ = _
                  simp only [Act.put, List.setIfInBounds_toArray, List.set_cons_zero, List.set_cons_succ, i64_w, i32_w]
                  rfl
                 refine pure_ (i := 13) (N := some 7) (v := ?_) (a' := ?_) #[true, true, true, true, true, true, true, true, true, true, true, true, true, true] rfl rfl (any_of HT_.out (by kernel_rfl)) (fun _ _ _ h => h) (Or.inl ⟨by rfl, ?_⟩) ?_ ?_
                 rotate_left
                 ·intro w'
                  go_simp
                  with_reducible rfl
                 rotate_left
                 ·simp only [Act.put, List.setIfInBounds_toArray, List.set_cons_zero, List.set_cons_succ, i64_w, i32_w]
                  rfl
                 refine done_ (done_of HT_.out (by kernel_rfl)) ?_
                 try go_wp2
                 go_roundg kj8
                 case measure => have := HK1.out; have := HJ3.out; have := HJ8.out; omega
                 case rel => exact ⟨(y455), (wrap64 ((wrap64 ((wrap64 ((wrap64 (x8_1 + (rd l0_0 x11_1))) + (rd l0_1 x11_1))) - 1)) + 1)), (x9_1), (wrap64 (x10_1 + 1)), (wrap64 (x11_1 + 1)), (by first | rfl | (simp; done) | (simp [*]; done)), (by first | rfl | (simp; done) | (simp [*]; done)), (by first | rfl | (simp; done) | (simp [*]; done)), (by first | rfl | (simp; done) | (simp [*]; done)), H', ⟨by have := HK1.out; have := HJ3.out; have := HJ8.out; omega⟩, ⟨by (with_reducible repeat (first | apply Kd.R_alloc | apply Kd.R_drewN | apply Kd.R_drew)); exact HO457.out⟩, ⟨by (with_reducible repeat (first | refine blk_drewN ?_ _ | refine blk_drew ?_ | refine blk_alloc ?_ _)); exact BK439.out⟩, ⟨by repeat (first | (with_reducible first | exact HB.out | apply below_alloc | apply pw_below_drewN | apply below_drew1 | refine below_set ?_ GE439.out) | exact HB.out)⟩⟩
               ·rw [if_neg c39] at H
                exact absurd H (by simp)
              ·rw [if_neg c38] at H
               exact absurd H (by simp)
             ·rw [if_neg c36] at H
              exact absurd H (by simp)
            ·rw [if_neg c35] at H
             exact absurd H (by simp)
           ·rw [if_neg c32] at H
            exact absurd H (by simp)
          ·rw [if_neg c31] at H
           exact absurd H (by simp)
         ·rw [if_neg c30] at H
          exact absurd H (by simp)
     ·as_aux_lemma =>
      replace c8 := Bool.eq_false_iff.mpr c8
      subst c8
      have H1 : ((colophonlaw11_four.f (wrap64 (16 + (wrap64 (12 * x10_1))))).bind fun t460 => (if 16 + t460.size ≤ 9223372036854775807 then ((colophonlaw11_four.f 0).bind fun t461 => (if ((⟨#[0, 0, 0, 1, 0, 0, 0, 4, 0, 0, 0, 12, 0, 12, 0, 0]⟩ : ByteArray) ++ t460).size + t461.size ≤ 9223372036854775807 then ((colophonlaw11_four.f x10_1).bind fun t462 => (if (((⟨#[0, 0, 0, 1, 0, 0, 0, 4, 0, 0, 0, 12, 0, 12, 0, 0]⟩ : ByteArray) ++ t460) ++ t461).size + t462.size ≤ 9223372036854775807 then (if ((((⟨#[0, 0, 0, 1, 0, 0, 0, 4, 0, 0, 0, 12, 0, 12, 0, 0]⟩ : ByteArray) ++ t460) ++ t461) ++ t462).size + (strOfNums x7_1).size ≤ 9223372036854775807 then ((cmap_Read.f kj3 (((((⟨#[0, 0, 0, 1, 0, 0, 0, 4, 0, 0, 0, 12, 0, 12, 0, 0]⟩ : ByteArray) ++ t460) ++ t461) ++ t462) ++ (strOfNums x7_1)) 4096).bind fun bt463 => (if bt463.2 = 0 then ((cmap_Find.f kj3 bt463.1 a0_3).bind fun t467 => (if t467 = x9_1 then ((cmap_Good.f kj3 bt463.1 4096).bind fun t468 => (if t468 = true then ((colophonlaw11_wakes.f kj3).bind fun t469 => (some t469)) else (some false))) else (some false))) else (some false))) else (none)) else (none))) else (none))) else (none))) = some r := by rw [if_neg (show ¬ (false = true) by decide)] at H; exact H
      clear H
      have H := H1
      clear H1
      replace H := Option.bind_eq_some_iff.mp H
      obtain ⟨t460, A690, H⟩ := H
      (try dsimp only at H)
      have A69 := Aside0.mk A690
      clear A690
      by_cases c70 : 16 + t460.size ≤ 9223372036854775807
      ·as_aux_lemma =>
       rw [if_pos c70] at H
       have c70b0 := eq_true c70
       have c70b1 : decide (16 + t460.size ≤ 9223372036854775807) = true := decide_eq_true c70
       try have c70b2 : (9223372036854775807 < 16 + t460.size) = False := eq_false (Nat.not_lt.2 c70)
       replace H := Option.bind_eq_some_iff.mp H
       obtain ⟨t461, A710, H⟩ := H
       (try dsimp only at H)
       have A71 := Aside0.mk A710
       clear A710
       by_cases c72 : ((⟨#[0, 0, 0, 1, 0, 0, 0, 4, 0, 0, 0, 12, 0, 12, 0, 0]⟩ : ByteArray) ++ t460).size + t461.size ≤ 9223372036854775807
       ·as_aux_lemma =>
        rw [if_pos c72] at H
        have c72b0 := eq_true c72
        have c72b1 : decide (((⟨#[0, 0, 0, 1, 0, 0, 0, 4, 0, 0, 0, 12, 0, 12, 0, 0]⟩ : ByteArray) ++ t460).size + t461.size ≤ 9223372036854775807) = true := decide_eq_true c72
        try (have c72b3 : (9223372036854775807 < 16 + t460.size + t461.size) = False := eq_false (by have h_ := c72; simp only [ByteArray.size_append] at h_; exact Nat.not_lt.2 h_))
        try have c72b2 : (9223372036854775807 < ((⟨#[0, 0, 0, 1, 0, 0, 0, 4, 0, 0, 0, 12, 0, 12, 0, 0]⟩ : ByteArray) ++ t460).size + t461.size) = False := eq_false (Nat.not_lt.2 c72)
        replace H := Option.bind_eq_some_iff.mp H
        obtain ⟨t462, A730, H⟩ := H
        (try dsimp only at H)
        have A73 := Aside0.mk A730
        clear A730
        by_cases c74 : (((⟨#[0, 0, 0, 1, 0, 0, 0, 4, 0, 0, 0, 12, 0, 12, 0, 0]⟩ : ByteArray) ++ t460) ++ t461).size + t462.size ≤ 9223372036854775807
        ·as_aux_lemma =>
         rw [if_pos c74] at H
         have c74b0 := eq_true c74
         have c74b1 : decide ((((⟨#[0, 0, 0, 1, 0, 0, 0, 4, 0, 0, 0, 12, 0, 12, 0, 0]⟩ : ByteArray) ++ t460) ++ t461).size + t462.size ≤ 9223372036854775807) = true := decide_eq_true c74
         try (have c74b3 : (9223372036854775807 < 16 + t460.size + t461.size + t462.size) = False := eq_false (by have h_ := c74; simp only [ByteArray.size_append] at h_; exact Nat.not_lt.2 h_))
         try have c74b2 : (9223372036854775807 < (((⟨#[0, 0, 0, 1, 0, 0, 0, 4, 0, 0, 0, 12, 0, 12, 0, 0]⟩ : ByteArray) ++ t460) ++ t461).size + t462.size) = False := eq_false (Nat.not_lt.2 c74)
         by_cases c75 : ((((⟨#[0, 0, 0, 1, 0, 0, 0, 4, 0, 0, 0, 12, 0, 12, 0, 0]⟩ : ByteArray) ++ t460) ++ t461) ++ t462).size + (strOfNums x7_1).size ≤ 9223372036854775807
         ·as_aux_lemma =>
          rw [if_pos c75] at H
          have c75b0 := eq_true c75
          have c75b1 : decide (((((⟨#[0, 0, 0, 1, 0, 0, 0, 4, 0, 0, 0, 12, 0, 12, 0, 0]⟩ : ByteArray) ++ t460) ++ t461) ++ t462).size + (strOfNums x7_1).size ≤ 9223372036854775807) = true := decide_eq_true c75
          try (have c75b3 : (9223372036854775807 < 16 + t460.size + t461.size + t462.size + (strOfNums x7_1).size) = False := eq_false (by have h_ := c75; simp only [ByteArray.size_append] at h_; exact Nat.not_lt.2 h_))
          try have c75b2 : (9223372036854775807 < ((((⟨#[0, 0, 0, 1, 0, 0, 0, 4, 0, 0, 0, 12, 0, 12, 0, 0]⟩ : ByteArray) ++ t460) ++ t461) ++ t462).size + (strOfNums x7_1).size) = False := eq_false (Nat.not_lt.2 c75)
          replace H := Option.bind_eq_some_iff.mp H
          obtain ⟨⟨t463, t464⟩, A760, H⟩ := H
          (try dsimp only at H)
          have A76 := Aside0.mk A760
          clear A760
          by_cases c77 : t464 = 0
          ·as_aux_lemma =>
           rw [if_pos c77] at H
           have c77b0 : (t464 == 0) = true := beq_iff_eq.mpr c77
           have c77b1 : (t464 != 0) = false := bne_eq_false_iff_eq.mpr c77
           clear c77
           replace H := Option.bind_eq_some_iff.mp H
           obtain ⟨t467, A780, H⟩ := H
           (try dsimp only at H)
           have A78 := Aside0.mk A780
           clear A780
           by_cases c79 : t467 = x9_1
           ·as_aux_lemma =>
            rw [if_pos c79] at H
            have c79b0 : (t467 == x9_1) = true := beq_iff_eq.mpr c79
            have c79b1 : (t467 != x9_1) = false := bne_eq_false_iff_eq.mpr c79
            clear c79
            replace H := Option.bind_eq_some_iff.mp H
            obtain ⟨t468, A800, H⟩ := H
            (try dsimp only at H)
            have A80 := Aside0.mk A800
            clear A800
            by_cases c81 : t468 = true
            ·as_aux_lemma =>
             subst c81
             have H1 : ((colophonlaw11_wakes.f kj3).bind fun t469 => (some t469)) = some r := by rw [if_pos rfl] at H; exact H
             clear H
             have H := H1
             clear H1
             replace H := Option.bind_eq_some_iff.mp H
             obtain ⟨t469, A820, H⟩ := H
             (try dsimp only at H)
             have A82 := Aside0.mk A820
             clear A820
             obtain rfl := Option.some.inj H
             try go_wp2
             have n0_ := Aside0.mk (Kd.R_drew HO_7.out)
             have n1_ := Aside0.mk (blk_drew BK439.out)
             have n2_ := Aside0.mk (below_drew1 HB.out)
             clear HO_7
             clear BK439
             clear HB
             have HO_7 := n0_
             have BK439 := n1_
             have HB := n2_
             clear n0_ n1_ n2_
             refine start_ (n := 14) (S := fun w' => (convert 43 9 (u7)).run Try.prog w' = .ok (.string (strOfNums x7_1)) w') (ds := []) #[false, false, false, false, false, false, false, false, false, false, false, false, false, false] (by kernel_rfl) rfl rfl ((own_string (P := Try.prog) Try.underlying43 Try.underlying5 Try.underlying9 (Kd.own_of_R HO_7.out))) (fun hHeld => ?_); refine with_tabW colophonlaw11_CmapSends.tab16 colophonlaw11_CmapSends.bits16 (fun HT_ HW_ => ?_)
             generalize wc.drew = w83 at HO_7 BK439 HB hHeld ⊢
             refine pure_ (i := 0) (N := some 156) (v := ?_) (a' := ?_) #[true, false, false, false, false, false, false, false, false, false, false, false, false, false] rfl rfl (any_of HT_.out (by kernel_rfl)) (fun _ _ _ h => h) (Or.inl ⟨by rfl, ?_⟩) ?_ ?_
             rotate_left
             ·intro w'
              go_simp
              with_reducible rfl
             rotate_left
             ·simp only [Act.put, List.setIfInBounds_toArray, List.set_cons_zero, List.set_cons_succ, i64_w, i32_w]
              rfl
             refine pure_ (i := 1) (N := some 157) (v := ?_) (a' := ?_) #[true, true, false, false, false, false, false, false, false, false, false, false, false, false] rfl rfl (any_of HT_.out (by kernel_rfl)) (fun _ _ _ h => h) (Or.inl ⟨by rfl, ?_⟩) ?_ ?_
             rotate_left
             ·intro w'
              go_simp
              with_reducible rfl
             rotate_left
             ·simp only [Act.put, List.setIfInBounds_toArray, List.set_cons_zero, List.set_cons_succ, i64_w, i32_w]
              rfl
             refine pure_ (i := 2) (N := some 158) (v := ?_) (a' := ?_) #[true, true, true, false, false, false, false, false, false, false, false, false, false, false] rfl rfl (any_of HT_.out (by kernel_rfl)) (fun _ _ _ h => h) (Or.inl ⟨by rfl, ?_⟩) ?_ ?_
             rotate_left
             ·intro w'
              go_simp
              with_reducible rfl
             rotate_left
             ·simp only [Act.put, List.setIfInBounds_toArray, List.set_cons_zero, List.set_cons_succ, i64_w, i32_w]
              rfl
             refine pure_ (i := 7) (N := some 163) (v := ?_) (a' := ?_) #[true, true, true, false, false, false, false, true, false, false, false, false, false, false] rfl rfl (any_of HT_.out (by kernel_rfl)) (fun _ _ _ h => h) (Or.inl ⟨by rfl, ?_⟩) ?_ ?_
             rotate_left
             ·intro w'
              go_simp
              with_reducible rfl
             rotate_left
             ·simp only [Act.put, List.setIfInBounds_toArray, List.set_cons_zero, List.set_cons_succ, i64_w, i32_w]
              rfl
             refine pure_ (i := 10) (N := some 166) (v := ?_) (a' := ?_) #[true, true, true, false, false, false, false, true, false, false, true, false, false, false] rfl rfl (any_of HT_.out (by kernel_rfl)) (fun _ _ _ h => h) (Or.inl ⟨by rfl, ?_⟩) ?_ ?_
             rotate_left
             ·intro w'
              go_simp
              with_reducible rfl
             rotate_left
             ·simp only [Act.put, List.setIfInBounds_toArray, List.set_cons_zero, List.set_cons_succ, i64_w, i32_w]
              rfl
             refine take_ (i := 11) (N := some 167) (v := ?_) (a' := ?_) #[true, true, true, false, false, false, false, true, false, false, true, true, false, false] rfl rfl (take_ofW HT_.out HW_.out (by kernel_rfl)) (fun _ _ _ h => h) (Or.inl ⟨by rfl, ?_⟩) hHeld ?_ ?_
             rotate_left
             ·intro w' s0
              go_simp
              with_reducible rfl
             rotate_left
             ·simp only [Act.put, List.setIfInBounds_toArray, List.set_cons_zero, List.set_cons_succ, i64_w, i32_w]
              rfl
             refine one_ (i := 3) (N := some 159) #[true, true, true, true, false, false, false, true, false, false, true, true, false, false] rfl rfl (one_of HT_.out (by kernel_rfl)) (by decide) (fun K hK => ?_)
             refine goes_ Try.func18 (by kernel_rfl) rfl #[.int .i64 (wrap64 (16 + (wrap64 (12 * x10_1))))] (by rfl) rfl rfl (by (try simp only [List.map_toArray, List.map_cons, List.map_nil]); first | done | rfl | (simp only [List.length_drop, List.length_take]; rfl)) ?_
             with_reducible refine (colophonlaw11_four.calls (wrap64 (16 + (wrap64 (12 * x10_1)))) t460 _ A69.out).mono ?_
             rintro e w84 ⟨rfl, hb⟩
             refine ⟨_, rfl, ?_⟩
             have n0_ := Aside0.mk (Kd.R_below (by (with_reducible repeat (first | apply Kd.R_alloc | apply Kd.R_drewN | apply Kd.R_drew)); exact HO_7.out) hb)
             have n1_ := Aside0.mk (blk_below (g := gb439) (o := .cells #[.slice A0_0 l0_0.length c0_0, .slice A0_1 l0_1.length c0_1, .slice A0_2 l0_2.length c0_2, .int .i64 a0_3] 42 (0, 0)) (by (with_reducible repeat (first | refine blk_drewN ?_ _ | refine blk_drew ?_ | refine blk_alloc ?_ _)); exact BK439.out) hb)
             have n2_ := Aside0.mk (below_step (by repeat (first | (with_reducible first | exact HB.out | apply below_alloc | apply pw_below_drewN | apply below_drew1 | refine below_set ?_ GE439.out) | exact HB.out)) hb)
             clear HO_7
             clear BK439
             clear HB
             have HO_7 := n0_
             have BK439 := n1_
             have HB := n2_
             clear n0_ n1_ n2_
             (try clear hb)
             (try clear hb2)
             (try clear hk)
             (try clear hi)
             refine hK.out _ _ ((own_string (P := Try.prog) Try.underlying43 Try.underlying5 Try.underlying9 (Kd.own_of_R HO_7.out))) (fun hHeld => ?_)
             clear hK K
             refine norm_ (a' := ?_) ?_ ?_
             rotate_left
             ·show Act.put _ (some 159) _ = _
              simp only [Act.put, List.setIfInBounds_toArray, List.set_cons_zero, List.set_cons_succ, i64_w, i32_w]
              rfl
             refine pure_ (i := 4) (N := some 160) (v := ?_) (a' := ?_) #[true, true, true, true, true, false, false, true, false, false, true, true, false, false] rfl rfl (any_of HT_.out (by kernel_rfl)) (fun _ _ _ h => h) (Or.inl ⟨by rfl, ?_⟩) ?_ ?_
             rotate_left
             ·intro w'
              go_simp
              with_reducible rfl
             rotate_left
             ·simp only [Act.put, List.setIfInBounds_toArray, List.set_cons_zero, List.set_cons_succ, i64_w, i32_w]
              rfl
             refine one_ (i := 5) (N := some 161) #[true, true, true, true, true, true, false, true, false, false, true, true, false, false] rfl rfl (one_of HT_.out (by kernel_rfl)) (by decide) (fun K hK => ?_)
             refine goes_ Try.func18 (by kernel_rfl) rfl #[.int .i64 0] (by rfl) rfl rfl (by (try simp only [List.map_toArray, List.map_cons, List.map_nil]); first | done | rfl | (simp only [List.length_drop, List.length_take]; rfl)) ?_
             with_reducible refine (colophonlaw11_four.calls 0 t461 _ A71.out).mono ?_
             rintro e w85 ⟨rfl, hb⟩
             refine ⟨_, rfl, ?_⟩
             have n0_ := Aside0.mk (Kd.R_below (by (with_reducible repeat (first | apply Kd.R_alloc | apply Kd.R_drewN | apply Kd.R_drew)); exact HO_7.out) hb)
             have n1_ := Aside0.mk (blk_below (g := gb439) (o := .cells #[.slice A0_0 l0_0.length c0_0, .slice A0_1 l0_1.length c0_1, .slice A0_2 l0_2.length c0_2, .int .i64 a0_3] 42 (0, 0)) (by (with_reducible repeat (first | refine blk_drewN ?_ _ | refine blk_drew ?_ | refine blk_alloc ?_ _)); exact BK439.out) hb)
             have n2_ := Aside0.mk (below_step (by repeat (first | (with_reducible first | exact HB.out | apply below_alloc | apply pw_below_drewN | apply below_drew1 | refine below_set ?_ GE439.out) | exact HB.out)) hb)
             clear HO_7
             clear BK439
             clear HB
             have HO_7 := n0_
             have BK439 := n1_
             have HB := n2_
             clear n0_ n1_ n2_
             (try clear hb)
             (try clear hb2)
             (try clear hk)
             (try clear hi)
             refine hK.out _ _ ((own_string (P := Try.prog) Try.underlying43 Try.underlying5 Try.underlying9 (Kd.own_of_R HO_7.out))) (fun hHeld => ?_)
             clear hK K
             refine norm_ (a' := ?_) ?_ ?_
             rotate_left
             ·show Act.put _ (some 161) _ = _
              simp only [Act.put, List.setIfInBounds_toArray, List.set_cons_zero, List.set_cons_succ, i64_w, i32_w]
              rfl
             refine pure_ (i := 6) (N := some 162) (v := ?_) (a' := ?_) #[true, true, true, true, true, true, true, true, false, false, true, true, false, false] rfl rfl (any_of HT_.out (by kernel_rfl)) (fun _ _ _ h => h) (Or.inl ⟨by rfl, ?_⟩) ?_ ?_
             rotate_left
             ·intro w'
              go_simp
              with_reducible rfl
             rotate_left
             ·simp only [Act.put, List.setIfInBounds_toArray, List.set_cons_zero, List.set_cons_succ, i64_w, i32_w]
              rfl
             refine one_ (i := 8) (N := some 164) #[true, true, true, true, true, true, true, true, true, false, true, true, false, false] rfl rfl (one_of HT_.out (by kernel_rfl)) (by decide) (fun K hK => ?_)
             refine goes_ Try.func18 (by kernel_rfl) rfl #[.int .i64 x10_1] (by rfl) rfl rfl (by (try simp only [List.map_toArray, List.map_cons, List.map_nil]); first | done | rfl | (simp only [List.length_drop, List.length_take]; rfl)) ?_
             with_reducible refine (colophonlaw11_four.calls x10_1 t462 _ A73.out).mono ?_
             rintro e w86 ⟨rfl, hb⟩
             refine ⟨_, rfl, ?_⟩
             have n0_ := Aside0.mk (Kd.R_below (by (with_reducible repeat (first | apply Kd.R_alloc | apply Kd.R_drewN | apply Kd.R_drew)); exact HO_7.out) hb)
             have n1_ := Aside0.mk (blk_below (g := gb439) (o := .cells #[.slice A0_0 l0_0.length c0_0, .slice A0_1 l0_1.length c0_1, .slice A0_2 l0_2.length c0_2, .int .i64 a0_3] 42 (0, 0)) (by (with_reducible repeat (first | refine blk_drewN ?_ _ | refine blk_drew ?_ | refine blk_alloc ?_ _)); exact BK439.out) hb)
             have n2_ := Aside0.mk (below_step (by repeat (first | (with_reducible first | exact HB.out | apply below_alloc | apply pw_below_drewN | apply below_drew1 | refine below_set ?_ GE439.out) | exact HB.out)) hb)
             clear HO_7
             clear BK439
             clear HB
             have HO_7 := n0_
             have BK439 := n1_
             have HB := n2_
             clear n0_ n1_ n2_
             (try clear hb)
             (try clear hb2)
             (try clear hk)
             (try clear hi)
             refine hK.out _ _ ((own_string (P := Try.prog) Try.underlying43 Try.underlying5 Try.underlying9 (Kd.own_of_R HO_7.out))) (fun hHeld => ?_)
             clear hK K
             refine norm_ (a' := ?_) ?_ ?_
             rotate_left
             ·show Act.put _ (some 164) _ = _
              simp only [Act.put, List.setIfInBounds_toArray, List.set_cons_zero, List.set_cons_succ, i64_w, i32_w]
              rfl
             refine pure_ (i := 9) (N := some 165) (v := ?_) (a' := ?_) #[true, true, true, true, true, true, true, true, true, true, true, true, false, false] rfl rfl (any_of HT_.out (by kernel_rfl)) (fun _ _ _ h => h) (Or.inl ⟨by rfl, ?_⟩) ?_ ?_
             rotate_left
             ·intro w'
              go_simp
              with_reducible rfl
             rotate_left
             ·simp only [Act.put, List.setIfInBounds_toArray, List.set_cons_zero, List.set_cons_succ, i64_w, i32_w]
              rfl
             refine pure_ (i := 12) (N := some 168) (v := ?_) (a' := ?_) #[true, true, true, true, true, true, true, true, true, true, true, true, true, false] rfl rfl (any_of HT_.out (by kernel_rfl)) (fun _ _ _ h => h) (Or.inl ⟨by rfl, ?_⟩) ?_ ?_
             rotate_left
             ·intro w'
              go_simp
              with_reducible rfl
             rotate_left
             ·simp only [Act.put, List.setIfInBounds_toArray, List.set_cons_zero, List.set_cons_succ, i64_w, i32_w]
              rfl
             refine pure_ (i := 13) (N := some 14) (v := ?_) (a' := ?_) #[true, true, true, true, true, true, true, true, true, true, true, true, true, true] rfl rfl (any_of HT_.out (by kernel_rfl)) (fun _ _ _ h => h) (Or.inl ⟨by rfl, ?_⟩) ?_ ?_
             rotate_left
             ·intro w'
              go_simp
              with_reducible rfl
             rotate_left
             ·simp only [Act.put, List.setIfInBounds_toArray, List.set_cons_zero, List.set_cons_succ, i64_w, i32_w]
              rfl
             refine done_ (done_of HT_.out (by kernel_rfl)) ?_
             try go_wp2_with (first | ((with_reducible refine gate_callee (f := 9) rfl ?_); refine goesL_ (some 171) rfl rfl Try.func9 (by kernel_rfl) rfl #[.string (((((⟨#[0, 0, 0, 1, 0, 0, 0, 4, 0, 0, 0, 12, 0, 12, 0, 0]⟩ : ByteArray) ++ t460) ++ t461) ++ t462) ++ (strOfNums x7_1)), .int .i64 4096] rfl (by (try simp only [List.map_toArray, List.map_cons, List.map_nil]); first | done | rfl) ?_; (with_reducible refine (cmap_Read.calls kj3 (((((⟨#[0, 0, 0, 1, 0, 0, 0, 4, 0, 0, 0, 12, 0, 12, 0, 0]⟩ : ByteArray) ++ t460) ++ t461) ++ t462) ++ (strOfNums x7_1)) 4096 t463 t464 _ A76.out).mono ?_); rintro e w88 ⟨v465, rfl, ho0, hb⟩; refine ⟨_, rfl, ?_⟩; have n0_ := Aside0.mk (Kd.R_below (by (with_reducible repeat (first | apply Kd.R_alloc | apply Kd.R_drewN | apply Kd.R_drew)); exact HO_7.out) hb); have n1_ := Aside0.mk (Kd.R_lower ho0 (below_size (by repeat (first | (with_reducible first | exact HB.out | apply below_alloc | apply pw_below_drewN | apply below_drew1 | refine below_set ?_ GE439.out) | exact HB.out)))); have n2_ := Aside0.mk (blk_below (g := gb439) (o := .cells #[.slice A0_0 l0_0.length c0_0, .slice A0_1 l0_1.length c0_1, .slice A0_2 l0_2.length c0_2, .int .i64 a0_3] 42 (0, 0)) (by (with_reducible repeat (first | refine blk_drewN ?_ _ | refine blk_drew ?_ | refine blk_alloc ?_ _)); exact BK439.out) hb); have n3_ := Aside0.mk (below_step (by repeat (first | (with_reducible first | exact HB.out | apply below_alloc | apply pw_below_drewN | apply below_drew1 | refine below_set ?_ GE439.out) | exact HB.out)) hb); clear HO_7; clear BK439; clear HB; have HO_7 := n0_; have HO466 := n1_; have BK439 := n2_; have HB := n3_; clear n0_ n1_ n2_ n3_; (try clear hb); (try clear ho0); obtain ⟨Ao89, co89, eo89⟩ := Kd.R_slice HO466.out; subst eo89) | (go_at_call 12; (with_reducible refine (cmap_Find.calls kj3 _ _ t463 a0_3 t467 _ ?side1 ?side2 A78.out).mono ?_); (case side1 => repeat (first | exact (Kd.R_reads' HO466.out).2.2 | (with_reducible refine Kd.C_alloc ?_ _) | (with_reducible refine Kd.C_drewN ?_ _) | (with_reducible refine Kd.C_drew ?_))); (case side2 => exact (Kd.R_reads' HO466.out).2.1); rintro e w90 ⟨rfl, hb⟩; have n0_ := Aside0.mk (Kd.R_below (by (with_reducible repeat (first | apply Kd.R_alloc | apply Kd.R_drewN | apply Kd.R_drew)); exact HO_7.out) hb); have n1_ := Aside0.mk (Kd.R_below (by (with_reducible repeat (first | apply Kd.R_alloc | apply Kd.R_drewN | apply Kd.R_drew)); exact HO466.out) hb); have n2_ := Aside0.mk (blk_below (g := gb439) (o := .cells #[.slice A0_0 l0_0.length c0_0, .slice A0_1 l0_1.length c0_1, .slice A0_2 l0_2.length c0_2, .int .i64 a0_3] 42 (0, 0)) (by (with_reducible repeat (first | refine blk_drewN ?_ _ | refine blk_drew ?_ | refine blk_alloc ?_ _)); exact BK439.out) hb); have n3_ := Aside0.mk (below_step (by repeat (first | (with_reducible first | exact HB.out | apply below_alloc | apply pw_below_drewN | apply below_drew1 | refine below_set ?_ GE439.out) | exact HB.out)) hb); clear HO_7; clear HO466; clear BK439; clear HB; have HO_7 := n0_; have HO466 := n1_; have BK439 := n2_; have HB := n3_; clear n0_ n1_ n2_ n3_; (try clear hb)) | (go_at_call 14; (with_reducible refine (cmap_Good.calls kj3 _ _ t463 4096 true _ ?side1 ?side2 A80.out).mono ?_); (case side1 => repeat (first | exact (Kd.R_reads' HO466.out).2.2 | (with_reducible refine Kd.C_alloc ?_ _) | (with_reducible refine Kd.C_drewN ?_ _) | (with_reducible refine Kd.C_drew ?_))); (case side2 => exact (Kd.R_reads' HO466.out).2.1); rintro e w91 ⟨rfl, hb⟩; have n0_ := Aside0.mk (Kd.R_below (by (with_reducible repeat (first | apply Kd.R_alloc | apply Kd.R_drewN | apply Kd.R_drew)); exact HO_7.out) hb); have n1_ := Aside0.mk (Kd.R_below (by (with_reducible repeat (first | apply Kd.R_alloc | apply Kd.R_drewN | apply Kd.R_drew)); exact HO466.out) hb); have n2_ := Aside0.mk (blk_below (g := gb439) (o := .cells #[.slice A0_0 l0_0.length c0_0, .slice A0_1 l0_1.length c0_1, .slice A0_2 l0_2.length c0_2, .int .i64 a0_3] 42 (0, 0)) (by (with_reducible repeat (first | refine blk_drewN ?_ _ | refine blk_drew ?_ | refine blk_alloc ?_ _)); exact BK439.out) hb); have n3_ := Aside0.mk (below_step (by repeat (first | (with_reducible first | exact HB.out | apply below_alloc | apply pw_below_drewN | apply below_drew1 | refine below_set ?_ GE439.out) | exact HB.out)) hb); clear HO_7; clear HO466; clear BK439; clear HB; have HO_7 := n0_; have HO466 := n1_; have BK439 := n2_; have HB := n3_; clear n0_ n1_ n2_ n3_; (try clear hb)) | (go_at_call 8; (with_reducible refine (colophonlaw11_wakes.calls kj3  t469 _ A82.out).mono ?_); rintro e w92 ⟨rfl, hb⟩; have n0_ := Aside0.mk (Kd.R_below (by (with_reducible repeat (first | apply Kd.R_alloc | apply Kd.R_drewN | apply Kd.R_drew)); exact HO_7.out) hb); have n1_ := Aside0.mk (Kd.R_below (by (with_reducible repeat (first | apply Kd.R_alloc | apply Kd.R_drewN | apply Kd.R_drew)); exact HO466.out) hb); have n2_ := Aside0.mk (blk_below (g := gb439) (o := .cells #[.slice A0_0 l0_0.length c0_0, .slice A0_1 l0_1.length c0_1, .slice A0_2 l0_2.length c0_2, .int .i64 a0_3] 42 (0, 0)) (by (with_reducible repeat (first | refine blk_drewN ?_ _ | refine blk_drew ?_ | refine blk_alloc ?_ _)); exact BK439.out) hb); have n3_ := Aside0.mk (below_step (by repeat (first | (with_reducible first | exact HB.out | apply below_alloc | apply pw_below_drewN | apply below_drew1 | refine below_set ?_ GE439.out) | exact HB.out)) hb); clear HO_7; clear HO466; clear BK439; clear HB; have HO_7 := n0_; have HO466 := n1_; have BK439 := n2_; have HB := n3_; clear n0_ n1_ n2_ n3_; (try clear hb)))
             go_ret
             exact ⟨by first | rfl | (simp [errW_none, errW_some] <;> rfl) | (simp [*, errW_none, errW_some] <;> rfl) | (((first | rw [pw_wdiv _ _ (by omega) (by omega)] | rw [pw_wdiv' _ _ (by omega) (by omega)] | rw [Go.IntWalk.wrap64_in _ (by omega)]); repeat (first | rw [pw_wdiv _ _ (by omega) (by omega)] | rw [pw_wdiv' _ _ (by omega) (by omega)] | rw [Go.IntWalk.wrap64_in _ (by omega)])); rfl), by repeat (first | (with_reducible first | exact HB.out | apply below_alloc | apply pw_below_drewN | apply below_drew1 | refine below_set ?_ GE439.out) | exact HB.out)⟩
            ·as_aux_lemma =>
             replace c81 := Bool.eq_false_iff.mpr c81
             subst c81
             have H1 : (some false) = some r := by rw [if_neg (show ¬ (false = true) by decide)] at H; exact H
             clear H
             have H := H1
             clear H1
             obtain rfl := Option.some.inj H
             try go_wp2
             have n0_ := Aside0.mk (Kd.R_drew HO_7.out)
             have n1_ := Aside0.mk (blk_drew BK439.out)
             have n2_ := Aside0.mk (below_drew1 HB.out)
             clear HO_7
             clear BK439
             clear HB
             have HO_7 := n0_
             have BK439 := n1_
             have HB := n2_
             clear n0_ n1_ n2_
             refine start_ (n := 14) (S := fun w' => (convert 43 9 (u7)).run Try.prog w' = .ok (.string (strOfNums x7_1)) w') (ds := []) #[false, false, false, false, false, false, false, false, false, false, false, false, false, false] (by kernel_rfl) rfl rfl ((own_string (P := Try.prog) Try.underlying43 Try.underlying5 Try.underlying9 (Kd.own_of_R HO_7.out))) (fun hHeld => ?_); refine with_tabW colophonlaw11_CmapSends.tab16 colophonlaw11_CmapSends.bits16 (fun HT_ HW_ => ?_)
             generalize wc.drew = w93 at HO_7 BK439 HB hHeld ⊢
             refine pure_ (i := 0) (N := some 156) (v := ?_) (a' := ?_) #[true, false, false, false, false, false, false, false, false, false, false, false, false, false] rfl rfl (any_of HT_.out (by kernel_rfl)) (fun _ _ _ h => h) (Or.inl ⟨by rfl, ?_⟩) ?_ ?_
             rotate_left
             ·intro w'
              go_simp
              with_reducible rfl
             rotate_left
             ·simp only [Act.put, List.setIfInBounds_toArray, List.set_cons_zero, List.set_cons_succ, i64_w, i32_w]
              rfl
             refine pure_ (i := 1) (N := some 157) (v := ?_) (a' := ?_) #[true, true, false, false, false, false, false, false, false, false, false, false, false, false] rfl rfl (any_of HT_.out (by kernel_rfl)) (fun _ _ _ h => h) (Or.inl ⟨by rfl, ?_⟩) ?_ ?_
             rotate_left
             ·intro w'
              go_simp
              with_reducible rfl
             rotate_left
             ·simp only [Act.put, List.setIfInBounds_toArray, List.set_cons_zero, List.set_cons_succ, i64_w, i32_w]
              rfl
             refine pure_ (i := 2) (N := some 158) (v := ?_) (a' := ?_) #[true, true, true, false, false, false, false, false, false, false, false, false, false, false] rfl rfl (any_of HT_.out (by kernel_rfl)) (fun _ _ _ h => h) (Or.inl ⟨by rfl, ?_⟩) ?_ ?_
             rotate_left
             ·intro w'
              go_simp
              with_reducible rfl
             rotate_left
             ·simp only [Act.put, List.setIfInBounds_toArray, List.set_cons_zero, List.set_cons_succ, i64_w, i32_w]
              rfl
             refine pure_ (i := 7) (N := some 163) (v := ?_) (a' := ?_) #[true, true, true, false, false, false, false, true, false, false, false, false, false, false] rfl rfl (any_of HT_.out (by kernel_rfl)) (fun _ _ _ h => h) (Or.inl ⟨by rfl, ?_⟩) ?_ ?_
             rotate_left
             ·intro w'
              go_simp
              with_reducible rfl
             rotate_left
             ·simp only [Act.put, List.setIfInBounds_toArray, List.set_cons_zero, List.set_cons_succ, i64_w, i32_w]
              rfl
             refine pure_ (i := 10) (N := some 166) (v := ?_) (a' := ?_) #[true, true, true, false, false, false, false, true, false, false, true, false, false, false] rfl rfl (any_of HT_.out (by kernel_rfl)) (fun _ _ _ h => h) (Or.inl ⟨by rfl, ?_⟩) ?_ ?_
             rotate_left
             ·intro w'
              go_simp
              with_reducible rfl
             rotate_left
             ·simp only [Act.put, List.setIfInBounds_toArray, List.set_cons_zero, List.set_cons_succ, i64_w, i32_w]
              rfl
             refine take_ (i := 11) (N := some 167) (v := ?_) (a' := ?_) #[true, true, true, false, false, false, false, true, false, false, true, true, false, false] rfl rfl (take_ofW HT_.out HW_.out (by kernel_rfl)) (fun _ _ _ h => h) (Or.inl ⟨by rfl, ?_⟩) hHeld ?_ ?_
             rotate_left
             ·intro w' s0
              go_simp
              with_reducible rfl
             rotate_left
             ·simp only [Act.put, List.setIfInBounds_toArray, List.set_cons_zero, List.set_cons_succ, i64_w, i32_w]
              rfl
             refine one_ (i := 3) (N := some 159) #[true, true, true, true, false, false, false, true, false, false, true, true, false, false] rfl rfl (one_of HT_.out (by kernel_rfl)) (by decide) (fun K hK => ?_)
             refine goes_ Try.func18 (by kernel_rfl) rfl #[.int .i64 (wrap64 (16 + (wrap64 (12 * x10_1))))] (by rfl) rfl rfl (by (try simp only [List.map_toArray, List.map_cons, List.map_nil]); first | done | rfl | (simp only [List.length_drop, List.length_take]; rfl)) ?_
             with_reducible refine (colophonlaw11_four.calls (wrap64 (16 + (wrap64 (12 * x10_1)))) t460 _ A69.out).mono ?_
             rintro e w94 ⟨rfl, hb⟩
             refine ⟨_, rfl, ?_⟩
             have n0_ := Aside0.mk (Kd.R_below (by (with_reducible repeat (first | apply Kd.R_alloc | apply Kd.R_drewN | apply Kd.R_drew)); exact HO_7.out) hb)
             have n1_ := Aside0.mk (blk_below (g := gb439) (o := .cells #[.slice A0_0 l0_0.length c0_0, .slice A0_1 l0_1.length c0_1, .slice A0_2 l0_2.length c0_2, .int .i64 a0_3] 42 (0, 0)) (by (with_reducible repeat (first | refine blk_drewN ?_ _ | refine blk_drew ?_ | refine blk_alloc ?_ _)); exact BK439.out) hb)
             have n2_ := Aside0.mk (below_step (by repeat (first | (with_reducible first | exact HB.out | apply below_alloc | apply pw_below_drewN | apply below_drew1 | refine below_set ?_ GE439.out) | exact HB.out)) hb)
             clear HO_7
             clear BK439
             clear HB
             have HO_7 := n0_
             have BK439 := n1_
             have HB := n2_
             clear n0_ n1_ n2_
             (try clear hb)
             (try clear hb2)
             (try clear hk)
             (try clear hi)
             refine hK.out _ _ ((own_string (P := Try.prog) Try.underlying43 Try.underlying5 Try.underlying9 (Kd.own_of_R HO_7.out))) (fun hHeld => ?_)
             clear hK K
             refine norm_ (a' := ?_) ?_ ?_
             rotate_left
             ·show Act.put _ (some 159) _ = _
              simp only [Act.put, List.setIfInBounds_toArray, List.set_cons_zero, List.set_cons_succ, i64_w, i32_w]
              rfl
             refine pure_ (i := 4) (N := some 160) (v := ?_) (a' := ?_) #[true, true, true, true, true, false, false, true, false, false, true, true, false, false] rfl rfl (any_of HT_.out (by kernel_rfl)) (fun _ _ _ h => h) (Or.inl ⟨by rfl, ?_⟩) ?_ ?_
             rotate_left
             ·intro w'
              go_simp
              with_reducible rfl
             rotate_left
             ·simp only [Act.put, List.setIfInBounds_toArray, List.set_cons_zero, List.set_cons_succ, i64_w, i32_w]
              rfl
             refine one_ (i := 5) (N := some 161) #[true, true, true, true, true, true, false, true, false, false, true, true, false, false] rfl rfl (one_of HT_.out (by kernel_rfl)) (by decide) (fun K hK => ?_)
             refine goes_ Try.func18 (by kernel_rfl) rfl #[.int .i64 0] (by rfl) rfl rfl (by (try simp only [List.map_toArray, List.map_cons, List.map_nil]); first | done | rfl | (simp only [List.length_drop, List.length_take]; rfl)) ?_
             with_reducible refine (colophonlaw11_four.calls 0 t461 _ A71.out).mono ?_
             rintro e w95 ⟨rfl, hb⟩
             refine ⟨_, rfl, ?_⟩
             have n0_ := Aside0.mk (Kd.R_below (by (with_reducible repeat (first | apply Kd.R_alloc | apply Kd.R_drewN | apply Kd.R_drew)); exact HO_7.out) hb)
             have n1_ := Aside0.mk (blk_below (g := gb439) (o := .cells #[.slice A0_0 l0_0.length c0_0, .slice A0_1 l0_1.length c0_1, .slice A0_2 l0_2.length c0_2, .int .i64 a0_3] 42 (0, 0)) (by (with_reducible repeat (first | refine blk_drewN ?_ _ | refine blk_drew ?_ | refine blk_alloc ?_ _)); exact BK439.out) hb)
             have n2_ := Aside0.mk (below_step (by repeat (first | (with_reducible first | exact HB.out | apply below_alloc | apply pw_below_drewN | apply below_drew1 | refine below_set ?_ GE439.out) | exact HB.out)) hb)
             clear HO_7
             clear BK439
             clear HB
             have HO_7 := n0_
             have BK439 := n1_
             have HB := n2_
             clear n0_ n1_ n2_
             (try clear hb)
             (try clear hb2)
             (try clear hk)
             (try clear hi)
             refine hK.out _ _ ((own_string (P := Try.prog) Try.underlying43 Try.underlying5 Try.underlying9 (Kd.own_of_R HO_7.out))) (fun hHeld => ?_)
             clear hK K
             refine norm_ (a' := ?_) ?_ ?_
             rotate_left
             ·show Act.put _ (some 161) _ = _
              simp only [Act.put, List.setIfInBounds_toArray, List.set_cons_zero, List.set_cons_succ, i64_w, i32_w]
              rfl
             refine pure_ (i := 6) (N := some 162) (v := ?_) (a' := ?_) #[true, true, true, true, true, true, true, true, false, false, true, true, false, false] rfl rfl (any_of HT_.out (by kernel_rfl)) (fun _ _ _ h => h) (Or.inl ⟨by rfl, ?_⟩) ?_ ?_
             rotate_left
             ·intro w'
              go_simp
              with_reducible rfl
             rotate_left
             ·simp only [Act.put, List.setIfInBounds_toArray, List.set_cons_zero, List.set_cons_succ, i64_w, i32_w]
              rfl
             refine one_ (i := 8) (N := some 164) #[true, true, true, true, true, true, true, true, true, false, true, true, false, false] rfl rfl (one_of HT_.out (by kernel_rfl)) (by decide) (fun K hK => ?_)
             refine goes_ Try.func18 (by kernel_rfl) rfl #[.int .i64 x10_1] (by rfl) rfl rfl (by (try simp only [List.map_toArray, List.map_cons, List.map_nil]); first | done | rfl | (simp only [List.length_drop, List.length_take]; rfl)) ?_
             with_reducible refine (colophonlaw11_four.calls x10_1 t462 _ A73.out).mono ?_
             rintro e w96 ⟨rfl, hb⟩
             refine ⟨_, rfl, ?_⟩
             have n0_ := Aside0.mk (Kd.R_below (by (with_reducible repeat (first | apply Kd.R_alloc | apply Kd.R_drewN | apply Kd.R_drew)); exact HO_7.out) hb)
             have n1_ := Aside0.mk (blk_below (g := gb439) (o := .cells #[.slice A0_0 l0_0.length c0_0, .slice A0_1 l0_1.length c0_1, .slice A0_2 l0_2.length c0_2, .int .i64 a0_3] 42 (0, 0)) (by (with_reducible repeat (first | refine blk_drewN ?_ _ | refine blk_drew ?_ | refine blk_alloc ?_ _)); exact BK439.out) hb)
             have n2_ := Aside0.mk (below_step (by repeat (first | (with_reducible first | exact HB.out | apply below_alloc | apply pw_below_drewN | apply below_drew1 | refine below_set ?_ GE439.out) | exact HB.out)) hb)
             clear HO_7
             clear BK439
             clear HB
             have HO_7 := n0_
             have BK439 := n1_
             have HB := n2_
             clear n0_ n1_ n2_
             (try clear hb)
             (try clear hb2)
             (try clear hk)
             (try clear hi)
             refine hK.out _ _ ((own_string (P := Try.prog) Try.underlying43 Try.underlying5 Try.underlying9 (Kd.own_of_R HO_7.out))) (fun hHeld => ?_)
             clear hK K
             refine norm_ (a' := ?_) ?_ ?_
             rotate_left
             ·show Act.put _ (some 164) _ = _
              simp only [Act.put, List.setIfInBounds_toArray, List.set_cons_zero, List.set_cons_succ, i64_w, i32_w]
              rfl
             refine pure_ (i := 9) (N := some 165) (v := ?_) (a' := ?_) #[true, true, true, true, true, true, true, true, true, true, true, true, false, false] rfl rfl (any_of HT_.out (by kernel_rfl)) (fun _ _ _ h => h) (Or.inl ⟨by rfl, ?_⟩) ?_ ?_
             rotate_left
             ·intro w'
              go_simp
              with_reducible rfl
             rotate_left
             ·simp only [Act.put, List.setIfInBounds_toArray, List.set_cons_zero, List.set_cons_succ, i64_w, i32_w]
              rfl
             refine pure_ (i := 12) (N := some 168) (v := ?_) (a' := ?_) #[true, true, true, true, true, true, true, true, true, true, true, true, true, false] rfl rfl (any_of HT_.out (by kernel_rfl)) (fun _ _ _ h => h) (Or.inl ⟨by rfl, ?_⟩) ?_ ?_
             rotate_left
             ·intro w'
              go_simp
              with_reducible rfl
             rotate_left
             ·simp only [Act.put, List.setIfInBounds_toArray, List.set_cons_zero, List.set_cons_succ, i64_w, i32_w]
              rfl
             refine pure_ (i := 13) (N := some 14) (v := ?_) (a' := ?_) #[true, true, true, true, true, true, true, true, true, true, true, true, true, true] rfl rfl (any_of HT_.out (by kernel_rfl)) (fun _ _ _ h => h) (Or.inl ⟨by rfl, ?_⟩) ?_ ?_
             rotate_left
             ·intro w'
              go_simp
              with_reducible rfl
             rotate_left
             ·simp only [Act.put, List.setIfInBounds_toArray, List.set_cons_zero, List.set_cons_succ, i64_w, i32_w]
              rfl
             refine done_ (done_of HT_.out (by kernel_rfl)) ?_
             try go_wp2_with (first | ((with_reducible refine gate_callee (f := 9) rfl ?_); refine goesL_ (some 171) rfl rfl Try.func9 (by kernel_rfl) rfl #[.string (((((⟨#[0, 0, 0, 1, 0, 0, 0, 4, 0, 0, 0, 12, 0, 12, 0, 0]⟩ : ByteArray) ++ t460) ++ t461) ++ t462) ++ (strOfNums x7_1)), .int .i64 4096] rfl (by (try simp only [List.map_toArray, List.map_cons, List.map_nil]); first | done | rfl) ?_; (with_reducible refine (cmap_Read.calls kj3 (((((⟨#[0, 0, 0, 1, 0, 0, 0, 4, 0, 0, 0, 12, 0, 12, 0, 0]⟩ : ByteArray) ++ t460) ++ t461) ++ t462) ++ (strOfNums x7_1)) 4096 t463 t464 _ A76.out).mono ?_); rintro e w98 ⟨v465, rfl, ho0, hb⟩; refine ⟨_, rfl, ?_⟩; have n0_ := Aside0.mk (Kd.R_below (by (with_reducible repeat (first | apply Kd.R_alloc | apply Kd.R_drewN | apply Kd.R_drew)); exact HO_7.out) hb); have n1_ := Aside0.mk (Kd.R_lower ho0 (below_size (by repeat (first | (with_reducible first | exact HB.out | apply below_alloc | apply pw_below_drewN | apply below_drew1 | refine below_set ?_ GE439.out) | exact HB.out)))); have n2_ := Aside0.mk (blk_below (g := gb439) (o := .cells #[.slice A0_0 l0_0.length c0_0, .slice A0_1 l0_1.length c0_1, .slice A0_2 l0_2.length c0_2, .int .i64 a0_3] 42 (0, 0)) (by (with_reducible repeat (first | refine blk_drewN ?_ _ | refine blk_drew ?_ | refine blk_alloc ?_ _)); exact BK439.out) hb); have n3_ := Aside0.mk (below_step (by repeat (first | (with_reducible first | exact HB.out | apply below_alloc | apply pw_below_drewN | apply below_drew1 | refine below_set ?_ GE439.out) | exact HB.out)) hb); clear HO_7; clear BK439; clear HB; have HO_7 := n0_; have HO466 := n1_; have BK439 := n2_; have HB := n3_; clear n0_ n1_ n2_ n3_; (try clear hb); (try clear ho0); obtain ⟨Ao99, co99, eo99⟩ := Kd.R_slice HO466.out; subst eo99) | (go_at_call 12; (with_reducible refine (cmap_Find.calls kj3 _ _ t463 a0_3 t467 _ ?side1 ?side2 A78.out).mono ?_); (case side1 => repeat (first | exact (Kd.R_reads' HO466.out).2.2 | (with_reducible refine Kd.C_alloc ?_ _) | (with_reducible refine Kd.C_drewN ?_ _) | (with_reducible refine Kd.C_drew ?_))); (case side2 => exact (Kd.R_reads' HO466.out).2.1); rintro e w100 ⟨rfl, hb⟩; have n0_ := Aside0.mk (Kd.R_below (by (with_reducible repeat (first | apply Kd.R_alloc | apply Kd.R_drewN | apply Kd.R_drew)); exact HO_7.out) hb); have n1_ := Aside0.mk (Kd.R_below (by (with_reducible repeat (first | apply Kd.R_alloc | apply Kd.R_drewN | apply Kd.R_drew)); exact HO466.out) hb); have n2_ := Aside0.mk (blk_below (g := gb439) (o := .cells #[.slice A0_0 l0_0.length c0_0, .slice A0_1 l0_1.length c0_1, .slice A0_2 l0_2.length c0_2, .int .i64 a0_3] 42 (0, 0)) (by (with_reducible repeat (first | refine blk_drewN ?_ _ | refine blk_drew ?_ | refine blk_alloc ?_ _)); exact BK439.out) hb); have n3_ := Aside0.mk (below_step (by repeat (first | (with_reducible first | exact HB.out | apply below_alloc | apply pw_below_drewN | apply below_drew1 | refine below_set ?_ GE439.out) | exact HB.out)) hb); clear HO_7; clear HO466; clear BK439; clear HB; have HO_7 := n0_; have HO466 := n1_; have BK439 := n2_; have HB := n3_; clear n0_ n1_ n2_ n3_; (try clear hb)) | (go_at_call 14; (with_reducible refine (cmap_Good.calls kj3 _ _ t463 4096 false _ ?side1 ?side2 A80.out).mono ?_); (case side1 => repeat (first | exact (Kd.R_reads' HO466.out).2.2 | (with_reducible refine Kd.C_alloc ?_ _) | (with_reducible refine Kd.C_drewN ?_ _) | (with_reducible refine Kd.C_drew ?_))); (case side2 => exact (Kd.R_reads' HO466.out).2.1); rintro e w101 ⟨rfl, hb⟩; have n0_ := Aside0.mk (Kd.R_below (by (with_reducible repeat (first | apply Kd.R_alloc | apply Kd.R_drewN | apply Kd.R_drew)); exact HO_7.out) hb); have n1_ := Aside0.mk (Kd.R_below (by (with_reducible repeat (first | apply Kd.R_alloc | apply Kd.R_drewN | apply Kd.R_drew)); exact HO466.out) hb); have n2_ := Aside0.mk (blk_below (g := gb439) (o := .cells #[.slice A0_0 l0_0.length c0_0, .slice A0_1 l0_1.length c0_1, .slice A0_2 l0_2.length c0_2, .int .i64 a0_3] 42 (0, 0)) (by (with_reducible repeat (first | refine blk_drewN ?_ _ | refine blk_drew ?_ | refine blk_alloc ?_ _)); exact BK439.out) hb); have n3_ := Aside0.mk (below_step (by repeat (first | (with_reducible first | exact HB.out | apply below_alloc | apply pw_below_drewN | apply below_drew1 | refine below_set ?_ GE439.out) | exact HB.out)) hb); clear HO_7; clear HO466; clear BK439; clear HB; have HO_7 := n0_; have HO466 := n1_; have BK439 := n2_; have HB := n3_; clear n0_ n1_ n2_ n3_; (try clear hb)))
             go_ret
             exact ⟨by first | rfl | (simp [errW_none, errW_some] <;> rfl) | (simp [*, errW_none, errW_some] <;> rfl) | (((first | rw [pw_wdiv _ _ (by omega) (by omega)] | rw [pw_wdiv' _ _ (by omega) (by omega)] | rw [Go.IntWalk.wrap64_in _ (by omega)]); repeat (first | rw [pw_wdiv _ _ (by omega) (by omega)] | rw [pw_wdiv' _ _ (by omega) (by omega)] | rw [Go.IntWalk.wrap64_in _ (by omega)])); rfl), by repeat (first | (with_reducible first | exact HB.out | apply below_alloc | apply pw_below_drewN | apply below_drew1 | refine below_set ?_ GE439.out) | exact HB.out)⟩
           ·as_aux_lemma =>
            rw [if_neg c79] at H
            have c79b0 : (t467 == x9_1) = false := beq_eq_false_iff_ne.mpr c79
            have c79b1 : (t467 != x9_1) = true := bne_iff_ne.mpr c79
            obtain rfl := Option.some.inj H
            try go_wp2
            have n0_ := Aside0.mk (Kd.R_drew HO_7.out)
            have n1_ := Aside0.mk (blk_drew BK439.out)
            have n2_ := Aside0.mk (below_drew1 HB.out)
            clear HO_7
            clear BK439
            clear HB
            have HO_7 := n0_
            have BK439 := n1_
            have HB := n2_
            clear n0_ n1_ n2_
            refine start_ (n := 14) (S := fun w' => (convert 43 9 (u7)).run Try.prog w' = .ok (.string (strOfNums x7_1)) w') (ds := []) #[false, false, false, false, false, false, false, false, false, false, false, false, false, false] (by kernel_rfl) rfl rfl ((own_string (P := Try.prog) Try.underlying43 Try.underlying5 Try.underlying9 (Kd.own_of_R HO_7.out))) (fun hHeld => ?_); refine with_tabW colophonlaw11_CmapSends.tab16 colophonlaw11_CmapSends.bits16 (fun HT_ HW_ => ?_)
            generalize wc.drew = w102 at HO_7 BK439 HB hHeld ⊢
            refine pure_ (i := 0) (N := some 156) (v := ?_) (a' := ?_) #[true, false, false, false, false, false, false, false, false, false, false, false, false, false] rfl rfl (any_of HT_.out (by kernel_rfl)) (fun _ _ _ h => h) (Or.inl ⟨by rfl, ?_⟩) ?_ ?_
            rotate_left
            ·intro w'
             go_simp
             with_reducible rfl
            rotate_left
            ·simp only [Act.put, List.setIfInBounds_toArray, List.set_cons_zero, List.set_cons_succ, i64_w, i32_w]
             rfl
            refine pure_ (i := 1) (N := some 157) (v := ?_) (a' := ?_) #[true, true, false, false, false, false, false, false, false, false, false, false, false, false] rfl rfl (any_of HT_.out (by kernel_rfl)) (fun _ _ _ h => h) (Or.inl ⟨by rfl, ?_⟩) ?_ ?_
            rotate_left
            ·intro w'
             go_simp
             with_reducible rfl
            rotate_left
            ·simp only [Act.put, List.setIfInBounds_toArray, List.set_cons_zero, List.set_cons_succ, i64_w, i32_w]
             rfl
            refine pure_ (i := 2) (N := some 158) (v := ?_) (a' := ?_) #[true, true, true, false, false, false, false, false, false, false, false, false, false, false] rfl rfl (any_of HT_.out (by kernel_rfl)) (fun _ _ _ h => h) (Or.inl ⟨by rfl, ?_⟩) ?_ ?_
            rotate_left
            ·intro w'
             go_simp
             with_reducible rfl
            rotate_left
            ·simp only [Act.put, List.setIfInBounds_toArray, List.set_cons_zero, List.set_cons_succ, i64_w, i32_w]
             rfl
            refine pure_ (i := 7) (N := some 163) (v := ?_) (a' := ?_) #[true, true, true, false, false, false, false, true, false, false, false, false, false, false] rfl rfl (any_of HT_.out (by kernel_rfl)) (fun _ _ _ h => h) (Or.inl ⟨by rfl, ?_⟩) ?_ ?_
            rotate_left
            ·intro w'
             go_simp
             with_reducible rfl
            rotate_left
            ·simp only [Act.put, List.setIfInBounds_toArray, List.set_cons_zero, List.set_cons_succ, i64_w, i32_w]
             rfl
            refine pure_ (i := 10) (N := some 166) (v := ?_) (a' := ?_) #[true, true, true, false, false, false, false, true, false, false, true, false, false, false] rfl rfl (any_of HT_.out (by kernel_rfl)) (fun _ _ _ h => h) (Or.inl ⟨by rfl, ?_⟩) ?_ ?_
            rotate_left
            ·intro w'
             go_simp
             with_reducible rfl
            rotate_left
            ·simp only [Act.put, List.setIfInBounds_toArray, List.set_cons_zero, List.set_cons_succ, i64_w, i32_w]
             rfl
            refine take_ (i := 11) (N := some 167) (v := ?_) (a' := ?_) #[true, true, true, false, false, false, false, true, false, false, true, true, false, false] rfl rfl (take_ofW HT_.out HW_.out (by kernel_rfl)) (fun _ _ _ h => h) (Or.inl ⟨by rfl, ?_⟩) hHeld ?_ ?_
            rotate_left
            ·intro w' s0
             go_simp
             with_reducible rfl
            rotate_left
            ·simp only [Act.put, List.setIfInBounds_toArray, List.set_cons_zero, List.set_cons_succ, i64_w, i32_w]
             rfl
            refine one_ (i := 3) (N := some 159) #[true, true, true, true, false, false, false, true, false, false, true, true, false, false] rfl rfl (one_of HT_.out (by kernel_rfl)) (by decide) (fun K hK => ?_)
            refine goes_ Try.func18 (by kernel_rfl) rfl #[.int .i64 (wrap64 (16 + (wrap64 (12 * x10_1))))] (by rfl) rfl rfl (by (try simp only [List.map_toArray, List.map_cons, List.map_nil]); first | done | rfl | (simp only [List.length_drop, List.length_take]; rfl)) ?_
            with_reducible refine (colophonlaw11_four.calls (wrap64 (16 + (wrap64 (12 * x10_1)))) t460 _ A69.out).mono ?_
            rintro e w103 ⟨rfl, hb⟩
            refine ⟨_, rfl, ?_⟩
            have n0_ := Aside0.mk (Kd.R_below (by (with_reducible repeat (first | apply Kd.R_alloc | apply Kd.R_drewN | apply Kd.R_drew)); exact HO_7.out) hb)
            have n1_ := Aside0.mk (blk_below (g := gb439) (o := .cells #[.slice A0_0 l0_0.length c0_0, .slice A0_1 l0_1.length c0_1, .slice A0_2 l0_2.length c0_2, .int .i64 a0_3] 42 (0, 0)) (by (with_reducible repeat (first | refine blk_drewN ?_ _ | refine blk_drew ?_ | refine blk_alloc ?_ _)); exact BK439.out) hb)
            have n2_ := Aside0.mk (below_step (by repeat (first | (with_reducible first | exact HB.out | apply below_alloc | apply pw_below_drewN | apply below_drew1 | refine below_set ?_ GE439.out) | exact HB.out)) hb)
            clear HO_7
            clear BK439
            clear HB
            have HO_7 := n0_
            have BK439 := n1_
            have HB := n2_
            clear n0_ n1_ n2_
            (try clear hb)
            (try clear hb2)
            (try clear hk)
            (try clear hi)
            refine hK.out _ _ ((own_string (P := Try.prog) Try.underlying43 Try.underlying5 Try.underlying9 (Kd.own_of_R HO_7.out))) (fun hHeld => ?_)
            clear hK K
            refine norm_ (a' := ?_) ?_ ?_
            rotate_left
            ·show Act.put _ (some 159) _ = _
             simp only [Act.put, List.setIfInBounds_toArray, List.set_cons_zero, List.set_cons_succ, i64_w, i32_w]
             rfl
            refine pure_ (i := 4) (N := some 160) (v := ?_) (a' := ?_) #[true, true, true, true, true, false, false, true, false, false, true, true, false, false] rfl rfl (any_of HT_.out (by kernel_rfl)) (fun _ _ _ h => h) (Or.inl ⟨by rfl, ?_⟩) ?_ ?_
            rotate_left
            ·intro w'
             go_simp
             with_reducible rfl
            rotate_left
            ·simp only [Act.put, List.setIfInBounds_toArray, List.set_cons_zero, List.set_cons_succ, i64_w, i32_w]
             rfl
            refine one_ (i := 5) (N := some 161) #[true, true, true, true, true, true, false, true, false, false, true, true, false, false] rfl rfl (one_of HT_.out (by kernel_rfl)) (by decide) (fun K hK => ?_)
            refine goes_ Try.func18 (by kernel_rfl) rfl #[.int .i64 0] (by rfl) rfl rfl (by (try simp only [List.map_toArray, List.map_cons, List.map_nil]); first | done | rfl | (simp only [List.length_drop, List.length_take]; rfl)) ?_
            with_reducible refine (colophonlaw11_four.calls 0 t461 _ A71.out).mono ?_
            rintro e w104 ⟨rfl, hb⟩
            refine ⟨_, rfl, ?_⟩
            have n0_ := Aside0.mk (Kd.R_below (by (with_reducible repeat (first | apply Kd.R_alloc | apply Kd.R_drewN | apply Kd.R_drew)); exact HO_7.out) hb)
            have n1_ := Aside0.mk (blk_below (g := gb439) (o := .cells #[.slice A0_0 l0_0.length c0_0, .slice A0_1 l0_1.length c0_1, .slice A0_2 l0_2.length c0_2, .int .i64 a0_3] 42 (0, 0)) (by (with_reducible repeat (first | refine blk_drewN ?_ _ | refine blk_drew ?_ | refine blk_alloc ?_ _)); exact BK439.out) hb)
            have n2_ := Aside0.mk (below_step (by repeat (first | (with_reducible first | exact HB.out | apply below_alloc | apply pw_below_drewN | apply below_drew1 | refine below_set ?_ GE439.out) | exact HB.out)) hb)
            clear HO_7
            clear BK439
            clear HB
            have HO_7 := n0_
            have BK439 := n1_
            have HB := n2_
            clear n0_ n1_ n2_
            (try clear hb)
            (try clear hb2)
            (try clear hk)
            (try clear hi)
            refine hK.out _ _ ((own_string (P := Try.prog) Try.underlying43 Try.underlying5 Try.underlying9 (Kd.own_of_R HO_7.out))) (fun hHeld => ?_)
            clear hK K
            refine norm_ (a' := ?_) ?_ ?_
            rotate_left
            ·show Act.put _ (some 161) _ = _
             simp only [Act.put, List.setIfInBounds_toArray, List.set_cons_zero, List.set_cons_succ, i64_w, i32_w]
             rfl
            refine pure_ (i := 6) (N := some 162) (v := ?_) (a' := ?_) #[true, true, true, true, true, true, true, true, false, false, true, true, false, false] rfl rfl (any_of HT_.out (by kernel_rfl)) (fun _ _ _ h => h) (Or.inl ⟨by rfl, ?_⟩) ?_ ?_
            rotate_left
            ·intro w'
             go_simp
             with_reducible rfl
            rotate_left
            ·simp only [Act.put, List.setIfInBounds_toArray, List.set_cons_zero, List.set_cons_succ, i64_w, i32_w]
             rfl
            refine one_ (i := 8) (N := some 164) #[true, true, true, true, true, true, true, true, true, false, true, true, false, false] rfl rfl (one_of HT_.out (by kernel_rfl)) (by decide) (fun K hK => ?_)
            refine goes_ Try.func18 (by kernel_rfl) rfl #[.int .i64 x10_1] (by rfl) rfl rfl (by (try simp only [List.map_toArray, List.map_cons, List.map_nil]); first | done | rfl | (simp only [List.length_drop, List.length_take]; rfl)) ?_
            with_reducible refine (colophonlaw11_four.calls x10_1 t462 _ A73.out).mono ?_
            rintro e w105 ⟨rfl, hb⟩
            refine ⟨_, rfl, ?_⟩
            have n0_ := Aside0.mk (Kd.R_below (by (with_reducible repeat (first | apply Kd.R_alloc | apply Kd.R_drewN | apply Kd.R_drew)); exact HO_7.out) hb)
            have n1_ := Aside0.mk (blk_below (g := gb439) (o := .cells #[.slice A0_0 l0_0.length c0_0, .slice A0_1 l0_1.length c0_1, .slice A0_2 l0_2.length c0_2, .int .i64 a0_3] 42 (0, 0)) (by (with_reducible repeat (first | refine blk_drewN ?_ _ | refine blk_drew ?_ | refine blk_alloc ?_ _)); exact BK439.out) hb)
            have n2_ := Aside0.mk (below_step (by repeat (first | (with_reducible first | exact HB.out | apply below_alloc | apply pw_below_drewN | apply below_drew1 | refine below_set ?_ GE439.out) | exact HB.out)) hb)
            clear HO_7
            clear BK439
            clear HB
            have HO_7 := n0_
            have BK439 := n1_
            have HB := n2_
            clear n0_ n1_ n2_
            (try clear hb)
            (try clear hb2)
            (try clear hk)
            (try clear hi)
            refine hK.out _ _ ((own_string (P := Try.prog) Try.underlying43 Try.underlying5 Try.underlying9 (Kd.own_of_R HO_7.out))) (fun hHeld => ?_)
            clear hK K
            refine norm_ (a' := ?_) ?_ ?_
            rotate_left
            ·show Act.put _ (some 164) _ = _
             simp only [Act.put, List.setIfInBounds_toArray, List.set_cons_zero, List.set_cons_succ, i64_w, i32_w]
             rfl
            refine pure_ (i := 9) (N := some 165) (v := ?_) (a' := ?_) #[true, true, true, true, true, true, true, true, true, true, true, true, false, false] rfl rfl (any_of HT_.out (by kernel_rfl)) (fun _ _ _ h => h) (Or.inl ⟨by rfl, ?_⟩) ?_ ?_
            rotate_left
            ·intro w'
             go_simp
             with_reducible rfl
            rotate_left
            ·simp only [Act.put, List.setIfInBounds_toArray, List.set_cons_zero, List.set_cons_succ, i64_w, i32_w]
             rfl
            refine pure_ (i := 12) (N := some 168) (v := ?_) (a' := ?_) #[true, true, true, true, true, true, true, true, true, true, true, true, true, false] rfl rfl (any_of HT_.out (by kernel_rfl)) (fun _ _ _ h => h) (Or.inl ⟨by rfl, ?_⟩) ?_ ?_
            rotate_left
            ·intro w'
             go_simp
             with_reducible rfl
            rotate_left
            ·simp only [Act.put, List.setIfInBounds_toArray, List.set_cons_zero, List.set_cons_succ, i64_w, i32_w]
             rfl
            refine pure_ (i := 13) (N := some 14) (v := ?_) (a' := ?_) #[true, true, true, true, true, true, true, true, true, true, true, true, true, true] rfl rfl (any_of HT_.out (by kernel_rfl)) (fun _ _ _ h => h) (Or.inl ⟨by rfl, ?_⟩) ?_ ?_
            rotate_left
            ·intro w'
             go_simp
             with_reducible rfl
            rotate_left
            ·simp only [Act.put, List.setIfInBounds_toArray, List.set_cons_zero, List.set_cons_succ, i64_w, i32_w]
             rfl
            refine done_ (done_of HT_.out (by kernel_rfl)) ?_
            try go_wp2_with (first | ((with_reducible refine gate_callee (f := 9) rfl ?_); refine goesL_ (some 171) rfl rfl Try.func9 (by kernel_rfl) rfl #[.string (((((⟨#[0, 0, 0, 1, 0, 0, 0, 4, 0, 0, 0, 12, 0, 12, 0, 0]⟩ : ByteArray) ++ t460) ++ t461) ++ t462) ++ (strOfNums x7_1)), .int .i64 4096] rfl (by (try simp only [List.map_toArray, List.map_cons, List.map_nil]); first | done | rfl) ?_; (with_reducible refine (cmap_Read.calls kj3 (((((⟨#[0, 0, 0, 1, 0, 0, 0, 4, 0, 0, 0, 12, 0, 12, 0, 0]⟩ : ByteArray) ++ t460) ++ t461) ++ t462) ++ (strOfNums x7_1)) 4096 t463 t464 _ A76.out).mono ?_); rintro e w107 ⟨v465, rfl, ho0, hb⟩; refine ⟨_, rfl, ?_⟩; have n0_ := Aside0.mk (Kd.R_below (by (with_reducible repeat (first | apply Kd.R_alloc | apply Kd.R_drewN | apply Kd.R_drew)); exact HO_7.out) hb); have n1_ := Aside0.mk (Kd.R_lower ho0 (below_size (by repeat (first | (with_reducible first | exact HB.out | apply below_alloc | apply pw_below_drewN | apply below_drew1 | refine below_set ?_ GE439.out) | exact HB.out)))); have n2_ := Aside0.mk (blk_below (g := gb439) (o := .cells #[.slice A0_0 l0_0.length c0_0, .slice A0_1 l0_1.length c0_1, .slice A0_2 l0_2.length c0_2, .int .i64 a0_3] 42 (0, 0)) (by (with_reducible repeat (first | refine blk_drewN ?_ _ | refine blk_drew ?_ | refine blk_alloc ?_ _)); exact BK439.out) hb); have n3_ := Aside0.mk (below_step (by repeat (first | (with_reducible first | exact HB.out | apply below_alloc | apply pw_below_drewN | apply below_drew1 | refine below_set ?_ GE439.out) | exact HB.out)) hb); clear HO_7; clear BK439; clear HB; have HO_7 := n0_; have HO466 := n1_; have BK439 := n2_; have HB := n3_; clear n0_ n1_ n2_ n3_; (try clear hb); (try clear ho0); obtain ⟨Ao108, co108, eo108⟩ := Kd.R_slice HO466.out; subst eo108) | (go_at_call 12; (with_reducible refine (cmap_Find.calls kj3 _ _ t463 a0_3 t467 _ ?side1 ?side2 A78.out).mono ?_); (case side1 => repeat (first | exact (Kd.R_reads' HO466.out).2.2 | (with_reducible refine Kd.C_alloc ?_ _) | (with_reducible refine Kd.C_drewN ?_ _) | (with_reducible refine Kd.C_drew ?_))); (case side2 => exact (Kd.R_reads' HO466.out).2.1); rintro e w109 ⟨rfl, hb⟩; have n0_ := Aside0.mk (Kd.R_below (by (with_reducible repeat (first | apply Kd.R_alloc | apply Kd.R_drewN | apply Kd.R_drew)); exact HO_7.out) hb); have n1_ := Aside0.mk (Kd.R_below (by (with_reducible repeat (first | apply Kd.R_alloc | apply Kd.R_drewN | apply Kd.R_drew)); exact HO466.out) hb); have n2_ := Aside0.mk (blk_below (g := gb439) (o := .cells #[.slice A0_0 l0_0.length c0_0, .slice A0_1 l0_1.length c0_1, .slice A0_2 l0_2.length c0_2, .int .i64 a0_3] 42 (0, 0)) (by (with_reducible repeat (first | refine blk_drewN ?_ _ | refine blk_drew ?_ | refine blk_alloc ?_ _)); exact BK439.out) hb); have n3_ := Aside0.mk (below_step (by repeat (first | (with_reducible first | exact HB.out | apply below_alloc | apply pw_below_drewN | apply below_drew1 | refine below_set ?_ GE439.out) | exact HB.out)) hb); clear HO_7; clear HO466; clear BK439; clear HB; have HO_7 := n0_; have HO466 := n1_; have BK439 := n2_; have HB := n3_; clear n0_ n1_ n2_ n3_; (try clear hb)))
            go_ret
            exact ⟨by first | rfl | (simp [errW_none, errW_some] <;> rfl) | (simp [*, errW_none, errW_some] <;> rfl) | (((first | rw [pw_wdiv _ _ (by omega) (by omega)] | rw [pw_wdiv' _ _ (by omega) (by omega)] | rw [Go.IntWalk.wrap64_in _ (by omega)]); repeat (first | rw [pw_wdiv _ _ (by omega) (by omega)] | rw [pw_wdiv' _ _ (by omega) (by omega)] | rw [Go.IntWalk.wrap64_in _ (by omega)])); rfl), by repeat (first | (with_reducible first | exact HB.out | apply below_alloc | apply pw_below_drewN | apply below_drew1 | refine below_set ?_ GE439.out) | exact HB.out)⟩
          ·as_aux_lemma =>
           rw [if_neg c77] at H
           have c77b0 : (t464 == 0) = false := beq_eq_false_iff_ne.mpr c77
           have c77b1 : (t464 != 0) = true := bne_iff_ne.mpr c77
           obtain rfl := Option.some.inj H
           try go_wp2
           have n0_ := Aside0.mk (Kd.R_drew HO_7.out)
           have n1_ := Aside0.mk (blk_drew BK439.out)
           have n2_ := Aside0.mk (below_drew1 HB.out)
           clear HO_7
           clear BK439
           clear HB
           have HO_7 := n0_
           have BK439 := n1_
           have HB := n2_
           clear n0_ n1_ n2_
           refine start_ (n := 14) (S := fun w' => (convert 43 9 (u7)).run Try.prog w' = .ok (.string (strOfNums x7_1)) w') (ds := []) #[false, false, false, false, false, false, false, false, false, false, false, false, false, false] (by kernel_rfl) rfl rfl ((own_string (P := Try.prog) Try.underlying43 Try.underlying5 Try.underlying9 (Kd.own_of_R HO_7.out))) (fun hHeld => ?_); refine with_tabW colophonlaw11_CmapSends.tab16 colophonlaw11_CmapSends.bits16 (fun HT_ HW_ => ?_)
           generalize wc.drew = w110 at HO_7 BK439 HB hHeld ⊢
           refine pure_ (i := 0) (N := some 156) (v := ?_) (a' := ?_) #[true, false, false, false, false, false, false, false, false, false, false, false, false, false] rfl rfl (any_of HT_.out (by kernel_rfl)) (fun _ _ _ h => h) (Or.inl ⟨by rfl, ?_⟩) ?_ ?_
           rotate_left
           ·intro w'
            go_simp
            with_reducible rfl
           rotate_left
           ·simp only [Act.put, List.setIfInBounds_toArray, List.set_cons_zero, List.set_cons_succ, i64_w, i32_w]
            rfl
           refine pure_ (i := 1) (N := some 157) (v := ?_) (a' := ?_) #[true, true, false, false, false, false, false, false, false, false, false, false, false, false] rfl rfl (any_of HT_.out (by kernel_rfl)) (fun _ _ _ h => h) (Or.inl ⟨by rfl, ?_⟩) ?_ ?_
           rotate_left
           ·intro w'
            go_simp
            with_reducible rfl
           rotate_left
           ·simp only [Act.put, List.setIfInBounds_toArray, List.set_cons_zero, List.set_cons_succ, i64_w, i32_w]
            rfl
           refine pure_ (i := 2) (N := some 158) (v := ?_) (a' := ?_) #[true, true, true, false, false, false, false, false, false, false, false, false, false, false] rfl rfl (any_of HT_.out (by kernel_rfl)) (fun _ _ _ h => h) (Or.inl ⟨by rfl, ?_⟩) ?_ ?_
           rotate_left
           ·intro w'
            go_simp
            with_reducible rfl
           rotate_left
           ·simp only [Act.put, List.setIfInBounds_toArray, List.set_cons_zero, List.set_cons_succ, i64_w, i32_w]
            rfl
           refine pure_ (i := 7) (N := some 163) (v := ?_) (a' := ?_) #[true, true, true, false, false, false, false, true, false, false, false, false, false, false] rfl rfl (any_of HT_.out (by kernel_rfl)) (fun _ _ _ h => h) (Or.inl ⟨by rfl, ?_⟩) ?_ ?_
           rotate_left
           ·intro w'
            go_simp
            with_reducible rfl
           rotate_left
           ·simp only [Act.put, List.setIfInBounds_toArray, List.set_cons_zero, List.set_cons_succ, i64_w, i32_w]
            rfl
           refine pure_ (i := 10) (N := some 166) (v := ?_) (a' := ?_) #[true, true, true, false, false, false, false, true, false, false, true, false, false, false] rfl rfl (any_of HT_.out (by kernel_rfl)) (fun _ _ _ h => h) (Or.inl ⟨by rfl, ?_⟩) ?_ ?_
           rotate_left
           ·intro w'
            go_simp
            with_reducible rfl
           rotate_left
           ·simp only [Act.put, List.setIfInBounds_toArray, List.set_cons_zero, List.set_cons_succ, i64_w, i32_w]
            rfl
           refine take_ (i := 11) (N := some 167) (v := ?_) (a' := ?_) #[true, true, true, false, false, false, false, true, false, false, true, true, false, false] rfl rfl (take_ofW HT_.out HW_.out (by kernel_rfl)) (fun _ _ _ h => h) (Or.inl ⟨by rfl, ?_⟩) hHeld ?_ ?_
           rotate_left
           ·intro w' s0
            go_simp
            with_reducible rfl
           rotate_left
           ·simp only [Act.put, List.setIfInBounds_toArray, List.set_cons_zero, List.set_cons_succ, i64_w, i32_w]
            rfl
           refine one_ (i := 3) (N := some 159) #[true, true, true, true, false, false, false, true, false, false, true, true, false, false] rfl rfl (one_of HT_.out (by kernel_rfl)) (by decide) (fun K hK => ?_)
           refine goes_ Try.func18 (by kernel_rfl) rfl #[.int .i64 (wrap64 (16 + (wrap64 (12 * x10_1))))] (by rfl) rfl rfl (by (try simp only [List.map_toArray, List.map_cons, List.map_nil]); first | done | rfl | (simp only [List.length_drop, List.length_take]; rfl)) ?_
           with_reducible refine (colophonlaw11_four.calls (wrap64 (16 + (wrap64 (12 * x10_1)))) t460 _ A69.out).mono ?_
           rintro e w111 ⟨rfl, hb⟩
           refine ⟨_, rfl, ?_⟩
           have n0_ := Aside0.mk (Kd.R_below (by (with_reducible repeat (first | apply Kd.R_alloc | apply Kd.R_drewN | apply Kd.R_drew)); exact HO_7.out) hb)
           have n1_ := Aside0.mk (blk_below (g := gb439) (o := .cells #[.slice A0_0 l0_0.length c0_0, .slice A0_1 l0_1.length c0_1, .slice A0_2 l0_2.length c0_2, .int .i64 a0_3] 42 (0, 0)) (by (with_reducible repeat (first | refine blk_drewN ?_ _ | refine blk_drew ?_ | refine blk_alloc ?_ _)); exact BK439.out) hb)
           have n2_ := Aside0.mk (below_step (by repeat (first | (with_reducible first | exact HB.out | apply below_alloc | apply pw_below_drewN | apply below_drew1 | refine below_set ?_ GE439.out) | exact HB.out)) hb)
           clear HO_7
           clear BK439
           clear HB
           have HO_7 := n0_
           have BK439 := n1_
           have HB := n2_
           clear n0_ n1_ n2_
           (try clear hb)
           (try clear hb2)
           (try clear hk)
           (try clear hi)
           refine hK.out _ _ ((own_string (P := Try.prog) Try.underlying43 Try.underlying5 Try.underlying9 (Kd.own_of_R HO_7.out))) (fun hHeld => ?_)
           clear hK K
           refine norm_ (a' := ?_) ?_ ?_
           rotate_left
           ·show Act.put _ (some 159) _ = _
            simp only [Act.put, List.setIfInBounds_toArray, List.set_cons_zero, List.set_cons_succ, i64_w, i32_w]
            rfl
           refine pure_ (i := 4) (N := some 160) (v := ?_) (a' := ?_) #[true, true, true, true, true, false, false, true, false, false, true, true, false, false] rfl rfl (any_of HT_.out (by kernel_rfl)) (fun _ _ _ h => h) (Or.inl ⟨by rfl, ?_⟩) ?_ ?_
           rotate_left
           ·intro w'
            go_simp
            with_reducible rfl
           rotate_left
           ·simp only [Act.put, List.setIfInBounds_toArray, List.set_cons_zero, List.set_cons_succ, i64_w, i32_w]
            rfl
           refine one_ (i := 5) (N := some 161) #[true, true, true, true, true, true, false, true, false, false, true, true, false, false] rfl rfl (one_of HT_.out (by kernel_rfl)) (by decide) (fun K hK => ?_)
           refine goes_ Try.func18 (by kernel_rfl) rfl #[.int .i64 0] (by rfl) rfl rfl (by (try simp only [List.map_toArray, List.map_cons, List.map_nil]); first | done | rfl | (simp only [List.length_drop, List.length_take]; rfl)) ?_
           with_reducible refine (colophonlaw11_four.calls 0 t461 _ A71.out).mono ?_
           rintro e w112 ⟨rfl, hb⟩
           refine ⟨_, rfl, ?_⟩
           have n0_ := Aside0.mk (Kd.R_below (by (with_reducible repeat (first | apply Kd.R_alloc | apply Kd.R_drewN | apply Kd.R_drew)); exact HO_7.out) hb)
           have n1_ := Aside0.mk (blk_below (g := gb439) (o := .cells #[.slice A0_0 l0_0.length c0_0, .slice A0_1 l0_1.length c0_1, .slice A0_2 l0_2.length c0_2, .int .i64 a0_3] 42 (0, 0)) (by (with_reducible repeat (first | refine blk_drewN ?_ _ | refine blk_drew ?_ | refine blk_alloc ?_ _)); exact BK439.out) hb)
           have n2_ := Aside0.mk (below_step (by repeat (first | (with_reducible first | exact HB.out | apply below_alloc | apply pw_below_drewN | apply below_drew1 | refine below_set ?_ GE439.out) | exact HB.out)) hb)
           clear HO_7
           clear BK439
           clear HB
           have HO_7 := n0_
           have BK439 := n1_
           have HB := n2_
           clear n0_ n1_ n2_
           (try clear hb)
           (try clear hb2)
           (try clear hk)
           (try clear hi)
           refine hK.out _ _ ((own_string (P := Try.prog) Try.underlying43 Try.underlying5 Try.underlying9 (Kd.own_of_R HO_7.out))) (fun hHeld => ?_)
           clear hK K
           refine norm_ (a' := ?_) ?_ ?_
           rotate_left
           ·show Act.put _ (some 161) _ = _
            simp only [Act.put, List.setIfInBounds_toArray, List.set_cons_zero, List.set_cons_succ, i64_w, i32_w]
            rfl
           refine pure_ (i := 6) (N := some 162) (v := ?_) (a' := ?_) #[true, true, true, true, true, true, true, true, false, false, true, true, false, false] rfl rfl (any_of HT_.out (by kernel_rfl)) (fun _ _ _ h => h) (Or.inl ⟨by rfl, ?_⟩) ?_ ?_
           rotate_left
           ·intro w'
            go_simp
            with_reducible rfl
           rotate_left
           ·simp only [Act.put, List.setIfInBounds_toArray, List.set_cons_zero, List.set_cons_succ, i64_w, i32_w]
            rfl
           refine one_ (i := 8) (N := some 164) #[true, true, true, true, true, true, true, true, true, false, true, true, false, false] rfl rfl (one_of HT_.out (by kernel_rfl)) (by decide) (fun K hK => ?_)
           refine goes_ Try.func18 (by kernel_rfl) rfl #[.int .i64 x10_1] (by rfl) rfl rfl (by (try simp only [List.map_toArray, List.map_cons, List.map_nil]); first | done | rfl | (simp only [List.length_drop, List.length_take]; rfl)) ?_
           with_reducible refine (colophonlaw11_four.calls x10_1 t462 _ A73.out).mono ?_
           rintro e w113 ⟨rfl, hb⟩
           refine ⟨_, rfl, ?_⟩
           have n0_ := Aside0.mk (Kd.R_below (by (with_reducible repeat (first | apply Kd.R_alloc | apply Kd.R_drewN | apply Kd.R_drew)); exact HO_7.out) hb)
           have n1_ := Aside0.mk (blk_below (g := gb439) (o := .cells #[.slice A0_0 l0_0.length c0_0, .slice A0_1 l0_1.length c0_1, .slice A0_2 l0_2.length c0_2, .int .i64 a0_3] 42 (0, 0)) (by (with_reducible repeat (first | refine blk_drewN ?_ _ | refine blk_drew ?_ | refine blk_alloc ?_ _)); exact BK439.out) hb)
           have n2_ := Aside0.mk (below_step (by repeat (first | (with_reducible first | exact HB.out | apply below_alloc | apply pw_below_drewN | apply below_drew1 | refine below_set ?_ GE439.out) | exact HB.out)) hb)
           clear HO_7
           clear BK439
           clear HB
           have HO_7 := n0_
           have BK439 := n1_
           have HB := n2_
           clear n0_ n1_ n2_
           (try clear hb)
           (try clear hb2)
           (try clear hk)
           (try clear hi)
           refine hK.out _ _ ((own_string (P := Try.prog) Try.underlying43 Try.underlying5 Try.underlying9 (Kd.own_of_R HO_7.out))) (fun hHeld => ?_)
           clear hK K
           refine norm_ (a' := ?_) ?_ ?_
           rotate_left
           ·show Act.put _ (some 164) _ = _
            simp only [Act.put, List.setIfInBounds_toArray, List.set_cons_zero, List.set_cons_succ, i64_w, i32_w]
            rfl
           refine pure_ (i := 9) (N := some 165) (v := ?_) (a' := ?_) #[true, true, true, true, true, true, true, true, true, true, true, true, false, false] rfl rfl (any_of HT_.out (by kernel_rfl)) (fun _ _ _ h => h) (Or.inl ⟨by rfl, ?_⟩) ?_ ?_
           rotate_left
           ·intro w'
            go_simp
            with_reducible rfl
           rotate_left
           ·simp only [Act.put, List.setIfInBounds_toArray, List.set_cons_zero, List.set_cons_succ, i64_w, i32_w]
            rfl
           refine pure_ (i := 12) (N := some 168) (v := ?_) (a' := ?_) #[true, true, true, true, true, true, true, true, true, true, true, true, true, false] rfl rfl (any_of HT_.out (by kernel_rfl)) (fun _ _ _ h => h) (Or.inl ⟨by rfl, ?_⟩) ?_ ?_
           rotate_left
           ·intro w'
            go_simp
            with_reducible rfl
           rotate_left
           ·simp only [Act.put, List.setIfInBounds_toArray, List.set_cons_zero, List.set_cons_succ, i64_w, i32_w]
            rfl
           refine pure_ (i := 13) (N := some 14) (v := ?_) (a' := ?_) #[true, true, true, true, true, true, true, true, true, true, true, true, true, true] rfl rfl (any_of HT_.out (by kernel_rfl)) (fun _ _ _ h => h) (Or.inl ⟨by rfl, ?_⟩) ?_ ?_
           rotate_left
           ·intro w'
            go_simp
            with_reducible rfl
           rotate_left
           ·simp only [Act.put, List.setIfInBounds_toArray, List.set_cons_zero, List.set_cons_succ, i64_w, i32_w]
            rfl
           refine done_ (done_of HT_.out (by kernel_rfl)) ?_
           try go_wp2_with (first | ((with_reducible refine gate_callee (f := 9) rfl ?_); refine goesL_ (some 171) rfl rfl Try.func9 (by kernel_rfl) rfl #[.string (((((⟨#[0, 0, 0, 1, 0, 0, 0, 4, 0, 0, 0, 12, 0, 12, 0, 0]⟩ : ByteArray) ++ t460) ++ t461) ++ t462) ++ (strOfNums x7_1)), .int .i64 4096] rfl (by (try simp only [List.map_toArray, List.map_cons, List.map_nil]); first | done | rfl) ?_; (with_reducible refine (cmap_Read.calls kj3 (((((⟨#[0, 0, 0, 1, 0, 0, 0, 4, 0, 0, 0, 12, 0, 12, 0, 0]⟩ : ByteArray) ++ t460) ++ t461) ++ t462) ++ (strOfNums x7_1)) 4096 t463 t464 _ A76.out).mono ?_); rintro e w115 ⟨v465, rfl, ho0, hb⟩; refine ⟨_, rfl, ?_⟩; have n0_ := Aside0.mk (Kd.R_below (by (with_reducible repeat (first | apply Kd.R_alloc | apply Kd.R_drewN | apply Kd.R_drew)); exact HO_7.out) hb); have n1_ := Aside0.mk (Kd.R_lower ho0 (below_size (by repeat (first | (with_reducible first | exact HB.out | apply below_alloc | apply pw_below_drewN | apply below_drew1 | refine below_set ?_ GE439.out) | exact HB.out)))); have n2_ := Aside0.mk (blk_below (g := gb439) (o := .cells #[.slice A0_0 l0_0.length c0_0, .slice A0_1 l0_1.length c0_1, .slice A0_2 l0_2.length c0_2, .int .i64 a0_3] 42 (0, 0)) (by (with_reducible repeat (first | refine blk_drewN ?_ _ | refine blk_drew ?_ | refine blk_alloc ?_ _)); exact BK439.out) hb); have n3_ := Aside0.mk (below_step (by repeat (first | (with_reducible first | exact HB.out | apply below_alloc | apply pw_below_drewN | apply below_drew1 | refine below_set ?_ GE439.out) | exact HB.out)) hb); clear HO_7; clear BK439; clear HB; have HO_7 := n0_; have HO466 := n1_; have BK439 := n2_; have HB := n3_; clear n0_ n1_ n2_ n3_; (try clear hb); (try clear ho0)))
           go_ret
           exact ⟨by first | rfl | (simp [errW_none, errW_some] <;> rfl) | (simp [*, errW_none, errW_some] <;> rfl) | (((first | rw [pw_wdiv _ _ (by omega) (by omega)] | rw [pw_wdiv' _ _ (by omega) (by omega)] | rw [Go.IntWalk.wrap64_in _ (by omega)]); repeat (first | rw [pw_wdiv _ _ (by omega) (by omega)] | rw [pw_wdiv' _ _ (by omega) (by omega)] | rw [Go.IntWalk.wrap64_in _ (by omega)])); rfl), by repeat (first | (with_reducible first | exact HB.out | apply below_alloc | apply pw_below_drewN | apply below_drew1 | refine below_set ?_ GE439.out) | exact HB.out)⟩
         ·rw [if_neg c75] at H
          exact absurd H (by simp)
        ·rw [if_neg c74] at H
         exact absurd H (by simp)
       ·rw [if_neg c72] at H
        exact absurd H (by simp)
      ·rw [if_neg c70] at H
       exact absurd H (by simp)

end Go.Proofs.Ytldcgkkbmnahiaa.Px
