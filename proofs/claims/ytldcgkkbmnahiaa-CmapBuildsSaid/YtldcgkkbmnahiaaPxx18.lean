-- Lean text written by this session's own program (wip/tools/myprint.py) for this claim
import Derived.Test.YtldcgkkbmnahiaaPxx0
import Derived.Test.YtldcgkkbmnahiaaPxx14
import Derived.Test.YtldcgkkbmnahiaaPxx16
import Derived.Test.YtldcgkkbmnahiaaPxx17
import Derived.Test.YtldcgkkbmnahiaaPxx22
import Derived.Test.YtldcgkkbmnahiaaPxx23
namespace Go.Proofs.Ytldcgkkbmnahiaa.Px
open Go.RowKit Go.Proofs.YtldcgkkbmnahiaaW.PrintWords Go.Proofs.YtldcgkkbmnahiaaW.PrintLast Go.Proofs.YtldcgkkbmnahiaaW.PrintMore
attribute [local go_sem] pw_max2 pw_min2 max_two min_two max_three min_three max_four min_four   -- for this text's walks alone
set_option linter.unusedVariables false
set_option linter.unusedSimpArgs false

/-! ### colophonref11_Build: function 17 -/
mutual
def colophonref11_Build.l0 : Nat → List (S47) → List Int → Int → Option (ByteArray × Int)
 | 0, _, _, _ => none
 | k + 1, x0, x6, x7 => if x7 < (x0.length : Int) then (if 0 ≤ x7 then ((colophonref11_fourb.f ((rd_T47 x0 x7).f0)).bind fun t343 => ((colophonref11_fourb.f ((rd_T47 x0 x7).f1)).bind fun t345 => (if t343.size + t345.size ≤ 9223372036854775807 then ((colophonref11_fourb.f ((rd_T47 x0 x7).f2)).bind fun t347 => (if (t343 ++ t345).size + t347.size ≤ 9223372036854775807 then (if x6.length + ((t343 ++ t345) ++ t347).size < 140737488355328 then (colophonref11_Build.l0 k x0 (x6 ++ bytesOf ((t343 ++ t345) ++ t347)) (wrap64 (x7 + 1))) else (none)) else (none))) else (none)))) else (none)) else ((colophonref11_two.f 3).bind fun t351 => (if 4 + t351.size ≤ 9223372036854775807 then ((colophonref11_two.f 10).bind fun t352 => (if ((⟨#[0, 0, 0, 1]⟩ : ByteArray) ++ t351).size + t352.size ≤ 9223372036854775807 then ((colophonref11_fourb.f 12).bind fun t353 => (if (((⟨#[0, 0, 0, 1]⟩ : ByteArray) ++ t351) ++ t352).size + t353.size ≤ 9223372036854775807 then (if ((((⟨#[0, 0, 0, 1]⟩ : ByteArray) ++ t351) ++ t352) ++ t353).size + 4 ≤ 9223372036854775807 then ((colophonref11_fourb.f (wrap64 (16 + (x6.length : Int)))).bind fun t354 => (if (((((⟨#[0, 0, 0, 1]⟩ : ByteArray) ++ t351) ++ t352) ++ t353) ++ (⟨#[0, 12, 0, 0]⟩ : ByteArray)).size + t354.size ≤ 9223372036854775807 then ((colophonref11_fourb.f 0).bind fun t355 => (if ((((((⟨#[0, 0, 0, 1]⟩ : ByteArray) ++ t351) ++ t352) ++ t353) ++ (⟨#[0, 12, 0, 0]⟩ : ByteArray)) ++ t354).size + t355.size ≤ 9223372036854775807 then ((colophonref11_fourb.f (x0.length : Int)).bind fun t356 => (if (((((((⟨#[0, 0, 0, 1]⟩ : ByteArray) ++ t351) ++ t352) ++ t353) ++ (⟨#[0, 12, 0, 0]⟩ : ByteArray)) ++ t354) ++ t355).size + t356.size ≤ 9223372036854775807 then (if ((((((((⟨#[0, 0, 0, 1]⟩ : ByteArray) ++ t351) ++ t352) ++ t353) ++ (⟨#[0, 12, 0, 0]⟩ : ByteArray)) ++ t354) ++ t355) ++ t356).size + (strOfNums x6).size ≤ 9223372036854775807 then (some (((((((((⟨#[0, 0, 0, 1]⟩ : ByteArray) ++ t351) ++ t352) ++ t353) ++ (⟨#[0, 12, 0, 0]⟩ : ByteArray)) ++ t354) ++ t355) ++ t356) ++ (strOfNums x6), 0)) else (none)) else (none))) else (none))) else (none))) else (none)) else (none))) else (none))) else (none)))
def colophonref11_Build.l1 : Nat → List (S47) → List Int → List Int → List Int → List Int → Int → Option (ByteArray × Int)
 | 0, _, _, _, _, _, _ => none
 | k + 1, x0, x8, x9, x10, x11, x12 => if x12 < (x0.length : Int) then (if 0 ≤ x12 then (if ((rd_T47 x0 x12).f1) > 65534 then (some ((⟨#[]⟩ : ByteArray), 110)) else ((colophonref11_two.f ((rd_T47 x0 x12).f1)).bind fun t359 => (if x8.length + t359.size < 140737488355328 then ((colophonref11_two.f ((rd_T47 x0 x12).f0)).bind fun t364 => (if x9.length + t364.size < 140737488355328 then ((colophonref11_two.f (wrap64 (((rd_T47 x0 x12).f2) - ((rd_T47 x0 x12).f0)))).bind fun t370 => (if x10.length + t370.size < 140737488355328 then ((some (([0, 0] : List Int) : List Int)).bind fun y374 => (if x11.length + y374.length < 140737488355328 then (colophonref11_Build.l1 k x0 (x8 ++ bytesOf t359) (x9 ++ bytesOf t364) (x10 ++ bytesOf t370) (x11 ++ y374) (wrap64 (x12 + 1))) else (none))) else (none))) else (none))) else (none)))) else (none)) else ((colophonref11_two.f 0).bind fun t380 => ((colophonref11_two.f (wrap64 (2 * (wrap64 ((x0.length : Int) + 1))))).bind fun t381 => (if t380.size + t381.size ≤ 9223372036854775807 then ((colophonref08_Search.f k (wrap64 ((x0.length : Int) + 1)) 2).bind fun t382 => (if (t380 ++ t381).size + t382.size ≤ 9223372036854775807 then (if ((t380 ++ t381) ++ t382).size + (strOfNums x8).size ≤ 9223372036854775807 then (if (((t380 ++ t381) ++ t382) ++ (strOfNums x8)).size + 4 ≤ 9223372036854775807 then (if ((((t380 ++ t381) ++ t382) ++ (strOfNums x8)) ++ (⟨#[255, 255, 0, 0]⟩ : ByteArray)).size + (strOfNums x9).size ≤ 9223372036854775807 then (if (((((t380 ++ t381) ++ t382) ++ (strOfNums x8)) ++ (⟨#[255, 255, 0, 0]⟩ : ByteArray)) ++ (strOfNums x9)).size + 2 ≤ 9223372036854775807 then (if ((((((t380 ++ t381) ++ t382) ++ (strOfNums x8)) ++ (⟨#[255, 255, 0, 0]⟩ : ByteArray)) ++ (strOfNums x9)) ++ (⟨#[255, 255]⟩ : ByteArray)).size + (strOfNums x10).size ≤ 9223372036854775807 then (if (((((((t380 ++ t381) ++ t382) ++ (strOfNums x8)) ++ (⟨#[255, 255, 0, 0]⟩ : ByteArray)) ++ (strOfNums x9)) ++ (⟨#[255, 255]⟩ : ByteArray)) ++ (strOfNums x10)).size + 2 ≤ 9223372036854775807 then (if ((((((((t380 ++ t381) ++ t382) ++ (strOfNums x8)) ++ (⟨#[255, 255, 0, 0]⟩ : ByteArray)) ++ (strOfNums x9)) ++ (⟨#[255, 255]⟩ : ByteArray)) ++ (strOfNums x10)) ++ (⟨#[0, 1]⟩ : ByteArray)).size + (strOfNums x11).size ≤ 9223372036854775807 then (if (((((((((t380 ++ t381) ++ t382) ++ (strOfNums x8)) ++ (⟨#[255, 255, 0, 0]⟩ : ByteArray)) ++ (strOfNums x9)) ++ (⟨#[255, 255]⟩ : ByteArray)) ++ (strOfNums x10)) ++ (⟨#[0, 1]⟩ : ByteArray)) ++ (strOfNums x11)).size + 2 ≤ 9223372036854775807 then ((colophonref11_two.f 3).bind fun t383 => (if 4 + t383.size ≤ 9223372036854775807 then ((colophonref11_two.f 1).bind fun t384 => (if ((⟨#[0, 0, 0, 1]⟩ : ByteArray) ++ t383).size + t384.size ≤ 9223372036854775807 then ((colophonref11_fourb.f 12).bind fun t385 => (if (((⟨#[0, 0, 0, 1]⟩ : ByteArray) ++ t383) ++ t384).size + t385.size ≤ 9223372036854775807 then ((colophonref11_two.f 4).bind fun t386 => (if ((((⟨#[0, 0, 0, 1]⟩ : ByteArray) ++ t383) ++ t384) ++ t385).size + t386.size ≤ 9223372036854775807 then ((colophonref11_two.f (wrap64 ((((((((((((t380 ++ t381) ++ t382) ++ (strOfNums x8)) ++ (⟨#[255, 255, 0, 0]⟩ : ByteArray)) ++ (strOfNums x9)) ++ (⟨#[255, 255]⟩ : ByteArray)) ++ (strOfNums x10)) ++ (⟨#[0, 1]⟩ : ByteArray)) ++ (strOfNums x11)) ++ (⟨#[0, 0]⟩ : ByteArray)).size : Int) + 4))).bind fun t387 => (if (((((⟨#[0, 0, 0, 1]⟩ : ByteArray) ++ t383) ++ t384) ++ t385) ++ t386).size + t387.size ≤ 9223372036854775807 then (if ((((((⟨#[0, 0, 0, 1]⟩ : ByteArray) ++ t383) ++ t384) ++ t385) ++ t386) ++ t387).size + ((((((((((t380 ++ t381) ++ t382) ++ (strOfNums x8)) ++ (⟨#[255, 255, 0, 0]⟩ : ByteArray)) ++ (strOfNums x9)) ++ (⟨#[255, 255]⟩ : ByteArray)) ++ (strOfNums x10)) ++ (⟨#[0, 1]⟩ : ByteArray)) ++ (strOfNums x11)) ++ (⟨#[0, 0]⟩ : ByteArray)).size ≤ 9223372036854775807 then (some (((((((⟨#[0, 0, 0, 1]⟩ : ByteArray) ++ t383) ++ t384) ++ t385) ++ t386) ++ t387) ++ ((((((((((t380 ++ t381) ++ t382) ++ (strOfNums x8)) ++ (⟨#[255, 255, 0, 0]⟩ : ByteArray)) ++ (strOfNums x9)) ++ (⟨#[255, 255]⟩ : ByteArray)) ++ (strOfNums x10)) ++ (⟨#[0, 1]⟩ : ByteArray)) ++ (strOfNums x11)) ++ (⟨#[0, 0]⟩ : ByteArray)), 0)) else (none)) else (none))) else (none))) else (none))) else (none))) else (none))) else (none)) else (none)) else (none)) else (none)) else (none)) else (none)) else (none)) else (none)) else (none))) else (none))))
end
def colophonref11_Build.f (k : Nat) (l0 : List (S47)) (a1 : Bool) : Option (ByteArray × Int) := (colophonref11_Good.f k l0 4096).bind fun t341 => (if t341 = true then (if a1 = true then (colophonref11_Build.l0 k l0 ([] : List Int) 0) else (if (l0.length : Int) > 4095 then (some ((⟨#[]⟩ : ByteArray), 110)) else (colophonref11_Build.l1 k l0 ([] : List Int) ([] : List Int) ([] : List Int) ([] : List Int) 0))) else (some ((⟨#[]⟩ : ByteArray), 110)))
theorem colophonref11_Build.mono_l : ∀ k, (∀ y0 y1 y2, LeO (colophonref11_Build.l0 k y0 y1 y2) (colophonref11_Build.l0 (k + 1) y0 y1 y2)) ∧ (∀ y0 y1 y2 y3 y4 y5, LeO (colophonref11_Build.l1 k y0 y1 y2 y3 y4 y5) (colophonref11_Build.l1 (k + 1) y0 y1 y2 y3 y4 y5))
 | 0 => ⟨fun _ _ _ r h => by simp [colophonref11_Build.l0] at h, fun _ _ _ _ _ _ r h => by simp [colophonref11_Build.l1] at h⟩
 | k + 1 => by
  obtain ⟨ih0, ih1⟩ := colophonref11_Build.mono_l k
  refine ⟨?_, ?_⟩
  ·intro y0 y1 y2
   unfold colophonref11_Build.l0
   repeat' first
   | (with_reducible exact ih0 _ _ _)
   | (with_reducible exact ih1 _ _ _ _ _ _)
   | (with_reducible exact colophonref08_Search.mono _ _ _)
   | (with_reducible exact colophonref11_Good.mono _ _ _)
   | (with_reducible exact LeO.refl _)
   | (with_reducible exact LeO.none _)
   | (with_reducible refine LeO.ite ?_ ?_)
   | (with_reducible refine LeO.bind ?_ (fun _ => ?_))
   | exact ih0 _ _ _
   | exact ih1 _ _ _ _ _ _
   | exact colophonref08_Search.mono _ _ _
   | exact colophonref11_Good.mono _ _ _
   | exact LeO.none _
   | refine LeO.ite ?_ ?_
   | refine LeO.bind ?_ (fun _ => ?_)
  ·intro y0 y1 y2 y3 y4 y5
   unfold colophonref11_Build.l1
   repeat' first
   | (with_reducible exact ih0 _ _ _)
   | (with_reducible exact ih1 _ _ _ _ _ _)
   | (with_reducible exact colophonref08_Search.mono _ _ _)
   | (with_reducible exact colophonref11_Good.mono _ _ _)
   | (with_reducible exact LeO.refl _)
   | (with_reducible exact LeO.none _)
   | (with_reducible refine LeO.ite ?_ ?_)
   | (with_reducible refine LeO.bind ?_ (fun _ => ?_))
   | exact ih0 _ _ _
   | exact ih1 _ _ _ _ _ _
   | exact colophonref08_Search.mono _ _ _
   | exact colophonref11_Good.mono _ _ _
   | exact LeO.none _
   | refine LeO.ite ?_ ?_
   | refine LeO.bind ?_ (fun _ => ?_)
theorem colophonref11_Build.mono : ∀ a0 a1 k, LeO (colophonref11_Build.f k a0 a1) (colophonref11_Build.f (k + 1) a0 a1) := by
 intro a0 a1 k
 obtain ⟨ih0, ih1⟩ := colophonref11_Build.mono_l k
 unfold colophonref11_Build.f
 repeat' first
   | (with_reducible exact ih0 _ _ _)
   | (with_reducible exact ih1 _ _ _ _ _ _)
   | (with_reducible exact colophonref08_Search.mono _ _ _)
   | (with_reducible exact colophonref11_Good.mono _ _ _)
   | (with_reducible exact LeO.refl _)
   | (with_reducible exact LeO.none _)
   | (with_reducible refine LeO.ite ?_ ?_)
   | (with_reducible refine LeO.bind ?_ (fun _ => ?_))
   | exact ih0 _ _ _
   | exact ih1 _ _ _ _ _ _
   | exact colophonref08_Search.mono _ _ _
   | exact colophonref11_Good.mono _ _ _
   | exact LeO.none _
   | refine LeO.ite ?_ ?_
   | refine LeO.bind ?_ (fun _ => ?_)
def colophonref11_Build.T8 : Bool × List (List Nat × List Nat) := (true, [([], []), ([], []), ([], []), ([1, 2], [1, 2]), ([3], [3]), ([4], [4]), ([5], [5]), ([], []), ([], []), ([7, 8], [7, 8]), ([9], [9]), ([10], [10]), ([11, 6], [11]), ([6, 12], [6, 12]), ([], []), ([], []), ([14, 15], [14, 15]), ([16], [16]), ([17], [17]), ([18, 12], [18]), ([13, 19], [13, 19]), ([0, 20, 19], [0, 20]), ([21, 21, 0, 1, 2, 3, 4, 5, 6, 7, 8, 9, 10, 11, 12, 13, 14, 15, 16, 17, 18, 19, 20, 21], [0, 21])])
def colophonref11_Build.B8 : List Nat := [0, 0, 0, 6, 14, 30, 62, 0, 0, 384, 896, 1920, 4094, 8190, 0, 0, 49152, 114688, 245760, 516094, 1048574, 2097151, 4194303]
theorem colophonref11_Build.tab8 : rtab .any (opsOf Try.f17 8) = colophonref11_Build.T8 := by kernel_rfl
theorem colophonref11_Build.bits8 : waitsOk colophonref11_Build.T8.2 colophonref11_Build.B8 = true := by kernel_rfl
def colophonref11_Build.T9 : Bool × List (List Nat × List Nat) := (true, [([], []), ([0], [0]), ([0], []), ([1, 2], [1, 2]), ([2], []), ([3, 4], [3, 4]), ([5], [5]), ([], []), ([7], [7]), ([8], [8]), ([9, 4], [9]), ([6, 10], [6, 10]), ([10], []), ([11, 12], [11, 12]), ([], []), ([14], [14]), ([15, 12], [15]), ([13, 16], [13, 16]), ([], []), ([18], [18]), ([17, 19], [17, 19]), ([20, 16, 0, 1, 2, 3, 4, 5, 6, 7, 8, 9, 10, 11, 12, 13, 14, 15, 16, 17, 18, 19, 20], [20]), ([21, 0, 1, 2, 3, 4, 5, 6, 7, 8, 9, 10, 11, 12, 13, 14, 15, 16, 17, 18, 19, 20, 21], [])])
def colophonref11_Build.B9 : List Nat := [0, 1, 1, 7, 5, 31, 63, 0, 128, 384, 917, 2047, 1941, 8191, 0, 16384, 55189, 131071, 0, 262144, 1048575, 2097151, 4194303]
theorem colophonref11_Build.tab9 : rtab .any (opsOf Try.f17 9) = colophonref11_Build.T9 := by kernel_rfl
theorem colophonref11_Build.bits9 : waitsOk colophonref11_Build.T9.2 colophonref11_Build.B9 = true := by kernel_rfl
def colophonref11_Build.T20 : Bool × List (List Nat × List Nat) := (true, [([], []), ([], []), ([], []), ([1, 2], [1, 2]), ([3], [3]), ([4], [4]), ([], []), ([], []), ([6, 7], [6, 7]), ([8], [8]), ([9], [9]), ([5, 10], [5, 10]), ([11], [11]), ([0, 12, 12], [0, 12]), ([13, 13, 0, 1, 2, 3, 4, 5, 6, 7, 8, 9, 10, 11, 12, 13], [0, 13])])
def colophonref11_Build.B20 : List Nat := [0, 0, 0, 6, 14, 30, 0, 0, 192, 448, 960, 2046, 4094, 8191, 16383]
theorem colophonref11_Build.tab20 : rtab .any (opsOf Try.f17 20) = colophonref11_Build.T20 := by kernel_rfl
theorem colophonref11_Build.bits20 : waitsOk colophonref11_Build.T20.2 colophonref11_Build.B20 = true := by kernel_rfl
def colophonref11_Build.T23 : Bool × List (List Nat × List Nat) := (true, [([], []), ([], []), ([1], [1]), ([2, 0], [2]), ([0, 3], [0, 3]), ([], []), ([5, 3], [5]), ([4, 6], [4, 6]), ([], []), ([8], [8]), ([7, 9], [7, 9]), ([10], [10]), ([], []), ([12], [12]), ([11, 13], [11, 13]), ([14], [14]), ([], []), ([16], [16]), ([15, 17], [15, 17]), ([18], [18]), ([], []), ([20], [20]), ([19, 21], [19, 21]), ([22], [22]), ([23, 6, 0, 1, 2, 3, 4, 5, 6, 7, 8, 9, 10, 11, 12, 13, 14, 15, 16, 17, 18, 19, 20, 21, 22, 23], [23])])
def colophonref11_Build.B23 : List Nat := [0, 0, 2, 7, 15, 0, 47, 127, 0, 256, 1023, 2047, 0, 4096, 16383, 32767, 0, 65536, 262143, 524287, 0, 1048576, 4194303, 8388607, 16777215]
theorem colophonref11_Build.tab23 : rtab .any (opsOf Try.f17 23) = colophonref11_Build.T23 := by kernel_rfl
theorem colophonref11_Build.bits23 : waitsOk colophonref11_Build.T23.2 colophonref11_Build.B23 = true := by kernel_rfl
set_option maxHeartbeats 8000000 in
set_option maxRecDepth 100000 in
theorem colophonref11_Build.calls (k : Nat) (A0 : Option Addr) (c0 : Nat) (l0 : List (S47)) (a1 : Bool) (r1 : ByteArray) (r2 : Int) (w : World) (hr0 : Kd.C k47 w A0 l0.length l0) (hc0 : l0.length ≤ c0) (h : colophonref11_Build.f k l0 a1 = some (r1, r2)) :
  Calls Try.prog 17 #[.slice A0 l0.length c0, .bool a1] w fun e w' => e = .returned (.tuple #[.string r1, .int .i64 r2]) ∧ Below w.heap.size w w' := by
 have HR0 := Aside0.mk hr0
 have HC0 := Aside0.mk hc0
 clear hr0 hc0
 have HB := Aside0.mk (Below.refl w.heap.size w)
 have H : ((colophonref11_Good.f k l0 4096).bind fun t341 => (if t341 = true then (if a1 = true then (colophonref11_Build.l0 k l0 ([] : List Int) 0) else (if (l0.length : Int) > 4095 then (some ((⟨#[]⟩ : ByteArray), 110)) else (colophonref11_Build.l1 k l0 ([] : List Int) ([] : List Int) ([] : List Int) ([] : List Int) 0))) else (some ((⟨#[]⟩ : ByteArray), 110)))) = some (r1, r2) := h
 clear h
 replace H := Option.bind_eq_some_iff.mp H
 obtain ⟨t341, A30, H⟩ := H
 (try dsimp only at H)
 have A3 := Aside0.mk A30
 clear A30
 by_cases c4 : t341 = true
 ·subst c4
  have H1 : (if a1 = true then (colophonref11_Build.l0 k l0 ([] : List Int) 0) else (if (l0.length : Int) > 4095 then (some ((⟨#[]⟩ : ByteArray), 110)) else (colophonref11_Build.l1 k l0 ([] : List Int) ([] : List Int) ([] : List Int) ([] : List Int) 0))) = some (r1, r2) := by rw [if_pos rfl] at H; exact H
  clear H
  have H := H1
  clear H1
  by_cases c5 : a1 = true
  ·subst c5
   have H1 : (colophonref11_Build.l0 k l0 ([] : List Int) 0) = some (r1, r2) := by rw [if_pos rfl] at H; exact H
   clear H
   have H := H1
   clear H1
   have H' := Aside0.mk H
   clear H
   go_enter Try.func17, Try.ntmps17
   go_wp2_with (first | ((with_reducible refine gate_callee (f := 15) rfl ?_); refine goesL_ (some 16) rfl rfl Try.func15 (by kernel_rfl) rfl #[.slice A0 l0.length c0, .int .i64 4096] rfl (by (try simp only [List.map_toArray, List.map_cons, List.map_nil]); first | done | rfl | (simp only [List.length_drop, List.length_take]; rfl)) ?_; (with_reducible refine (colophonref11_Good.calls k _ _ l0 4096 true _ ?side1 ?side2 A3.out).mono ?_); (case side1 => repeat (first | exact HR0.out | (with_reducible refine Kd.C_alloc ?_ _) | (with_reducible refine Kd.C_drewN ?_ _) | (with_reducible refine Kd.C_drew ?_))); (case side2 => exact HC0.out); rintro e w6 ⟨rfl, hb⟩; refine ⟨_, rfl, ?_⟩; have n0_ := Aside0.mk (below_step (by repeat (first | (with_reducible first | exact HB.out | apply below_alloc | apply pw_below_drewN | apply below_drew1) | exact HB.out)) hb); clear HB; have HB := n0_; clear n0_; (try clear hb)))
   go_loopg [6, 7] k (fun kq v6 v7 w' => ∃ (x6_1 : List Int) (x7_1 : Int), v7 = .int .i64 x7_1 ∧ Aside0 (colophonref11_Build.l0 kq l0 x6_1 x7_1 = some (r1, r2)) ∧ Aside0 (kq ≤ k) ∧ Aside0 (Kd.R (Kd.int .u8) 5 w' w.heap.size (fun _ => True) v6 x6_1) ∧ Aside0 (Below w.heap.size w w'))
   case atStart => exact ⟨(([] : List Int)), (0), (by first | rfl | (simp; done) | (simp [*]; done)), H', ⟨Nat.le_refl _⟩, ⟨by first | exact Kd.R_nil _ _ _ _ _ | exact Kd.N_nil _ _ _ _ _ | exact Kd.V_nil _ _ _ _ _ | exact Kd.Q_nil _ _ _ _ _ | exact Kd.S_nil _ _ _ _ _⟩, ⟨by repeat (first | (with_reducible first | exact HB.out | apply below_alloc | apply pw_below_drewN | apply below_drew1) | exact HB.out)⟩⟩
   case round =>
    clear H'
    try clear c1
    try clear p2
    try clear c4
    try clear c5
    obtain ⟨x6_1, x7_1, rfl, HA, HK1, HO_6, HB⟩ := hrel
    cases gk with
    | zero => exact absurd HA.out (by simp [colophonref11_Build.l0])
    | succ k1 =>
     have H := HA.out
     clear HA
     simp only [colophonref11_Build.l0] at H
     by_cases c7 : x7_1 < (l0.length : Int)
     ·rw [if_pos c7] at H
      have c7b0 : decide (x7_1 < (l0.length : Int)) = true := decide_eq_true c7
      clear c7
      by_cases c8 : 0 ≤ x7_1
      ·rw [if_pos c8] at H
       have c8b0 : decide (0 ≤ x7_1) = true := decide_eq_true c8
       clear c8
       replace H := Option.bind_eq_some_iff.mp H
       obtain ⟨t343, A90, H⟩ := H
       (try dsimp only at H)
       have A9 := Aside0.mk A90
       clear A90
       replace H := Option.bind_eq_some_iff.mp H
       obtain ⟨t345, A100, H⟩ := H
       (try dsimp only at H)
       have A10 := Aside0.mk A100
       clear A100
       by_cases c11 : t343.size + t345.size ≤ 9223372036854775807
       ·rw [if_pos c11] at H
        have c11b0 := eq_true c11
        have c11b1 : decide (t343.size + t345.size ≤ 9223372036854775807) = true := decide_eq_true c11
        try have c11b2 : (9223372036854775807 < t343.size + t345.size) = False := eq_false (Nat.not_lt.2 c11)
        replace H := Option.bind_eq_some_iff.mp H
        obtain ⟨t347, A120, H⟩ := H
        (try dsimp only at H)
        have A12 := Aside0.mk A120
        clear A120
        by_cases c13 : (t343 ++ t345).size + t347.size ≤ 9223372036854775807
        ·rw [if_pos c13] at H
         have c13b0 := eq_true c13
         have c13b1 : decide ((t343 ++ t345).size + t347.size ≤ 9223372036854775807) = true := decide_eq_true c13
         try (have c13b3 : (9223372036854775807 < t343.size + t345.size + t347.size) = False := eq_false (by have h_ := c13; simp only [ByteArray.size_append] at h_; exact Nat.not_lt.2 h_))
         try have c13b2 : (9223372036854775807 < (t343 ++ t345).size + t347.size) = False := eq_false (Nat.not_lt.2 c13)
         by_cases c14 : x6_1.length + ((t343 ++ t345) ++ t347).size < 140737488355328
         ·rw [if_pos c14] at H
          have LMc14 := Aside0.mk c14
          clear c14
          obtain ⟨y348, hy348⟩ : ∃ y_ : List Int, y_ = (x6_1 ++ bytesOf ((t343 ++ t345) ++ t347)) := ⟨_, rfl⟩
          replace H : (colophonref11_Build.l0 k1 l0 y348 (wrap64 (x7_1 + 1))) = some (r1, r2) := by first | (rw [hy348]; with_reducible exact H) | (have H2_ := (Option.bind_some _ _).symm.trans H; rw [hy348]; with_reducible exact H2_) | (have H2_ := (Option.bind_some _ _).symm.trans H; with_reducible exact H2_) | with_reducible exact H | (rw [hy348]; exact H) | exact H
          have Ny348 := Aside0.mk hy348
          clear hy348
          have H' := Aside0.mk H
          clear H
          try go_wp2
          have n0_ := Aside0.mk (Kd.R_drew HO_6.out)
          have n1_ := Aside0.mk (below_drew1 HB.out)
          clear HO_6
          clear HB
          have HO_6 := n0_
          have HB := n1_
          clear n0_ n1_
          have p342 : 0 ≤ (x7_1 : Int) := of_decide_eq_true (by first | (with_reducible assumption) | assumption)
          have q342 : x7_1 < (l0.length : Int) := of_decide_eq_true (by first | (with_reducible assumption) | assumption)
          obtain ⟨ad342, e342, hx342_0, hx342_1, hx342_2⟩ := at_T47 HR0.out x7_1 p342 q342
          have hw342_2 := hx342_2
          have hw342_1 := hx342_1
          have hw342_0 := hx342_0
          cases e342
          replace hx342_0 := (HB.out.cell (World.block_lt_of_cell? w _ hx342_0)).trans hx342_0
          replace hx342_1 := (HB.out.cell (World.block_lt_of_cell? w _ hx342_1)).trans hx342_1
          replace hx342_2 := (HB.out.cell (World.block_lt_of_cell? w _ hx342_2)).trans hx342_2
          replace p342 := eq_true p342
          replace q342 := eq_true q342
          have p344 : 0 ≤ (x7_1 : Int) := of_decide_eq_true (by first | (with_reducible assumption) | assumption)
          have q344 : x7_1 < (l0.length : Int) := of_decide_eq_true (by first | (with_reducible assumption) | assumption)
          obtain ⟨ad344, e344, hx344_0, hx344_1, hx344_2⟩ := at_T47 HR0.out x7_1 p344 q344
          have hw344_2 := hx344_2
          have hw344_1 := hx344_1
          have hw344_0 := hx344_0
          obtain rfl : ad342 = ad344 := (by injection e344)
          replace hx344_0 := (HB.out.cell (World.block_lt_of_cell? w _ hx344_0)).trans hx344_0
          replace hx344_1 := (HB.out.cell (World.block_lt_of_cell? w _ hx344_1)).trans hx344_1
          replace hx344_2 := (HB.out.cell (World.block_lt_of_cell? w _ hx344_2)).trans hx344_2
          replace p344 := eq_true p344
          replace q344 := eq_true q344
          have p346 : 0 ≤ (x7_1 : Int) := of_decide_eq_true (by first | (with_reducible assumption) | assumption)
          have q346 : x7_1 < (l0.length : Int) := of_decide_eq_true (by first | (with_reducible assumption) | assumption)
          obtain ⟨ad346, e346, hx346_0, hx346_1, hx346_2⟩ := at_T47 HR0.out x7_1 p346 q346
          have hw346_2 := hx346_2
          have hw346_1 := hx346_1
          have hw346_0 := hx346_0
          obtain rfl : ad342 = ad346 := (by injection e346)
          replace hx346_0 := (HB.out.cell (World.block_lt_of_cell? w _ hx346_0)).trans hx346_0
          replace hx346_1 := (HB.out.cell (World.block_lt_of_cell? w _ hx346_1)).trans hx346_1
          replace hx346_2 := (HB.out.cell (World.block_lt_of_cell? w _ hx346_2)).trans hx346_2
          replace p346 := eq_true p346
          replace q346 := eq_true q346
          refine start_ (n := 23) (S := fun w' => w'.cell? (ad342.add ((x7_1).toNat * 3)) = some (.int .i64 ((rd_T47 l0 x7_1).f0)) ∧ w'.cell? ⟨(ad342.add ((x7_1).toNat * 3)).block, (ad342.add ((x7_1).toNat * 3)).off + 1, none⟩ = some (.int .i64 ((rd_T47 l0 x7_1).f1)) ∧ w'.cell? ⟨(ad342.add ((x7_1).toNat * 3)).block, (ad342.add ((x7_1).toNat * 3)).off + 2, none⟩ = some (.int .i64 ((rd_T47 l0 x7_1).f2)) ∧ w'.cell? (ad342.add ((x7_1).toNat * 3)) = some (.int .i64 ((rd_T47 l0 x7_1).f0)) ∧ w'.cell? ⟨(ad342.add ((x7_1).toNat * 3)).block, (ad342.add ((x7_1).toNat * 3)).off + 1, none⟩ = some (.int .i64 ((rd_T47 l0 x7_1).f1)) ∧ w'.cell? ⟨(ad342.add ((x7_1).toNat * 3)).block, (ad342.add ((x7_1).toNat * 3)).off + 2, none⟩ = some (.int .i64 ((rd_T47 l0 x7_1).f2)) ∧ w'.cell? (ad342.add ((x7_1).toNat * 3)) = some (.int .i64 ((rd_T47 l0 x7_1).f0)) ∧ w'.cell? ⟨(ad342.add ((x7_1).toNat * 3)).block, (ad342.add ((x7_1).toNat * 3)).off + 1, none⟩ = some (.int .i64 ((rd_T47 l0 x7_1).f1)) ∧ w'.cell? ⟨(ad342.add ((x7_1).toNat * 3)).block, (ad342.add ((x7_1).toNat * 3)).off + 2, none⟩ = some (.int .i64 ((rd_T47 l0 x7_1).f2))) (ds := []) #[false, false, false, false, false, false, false, false, false, false, false, false, false, false, false, false, false, false, false, false, false, false, false] (by kernel_rfl) rfl rfl ⟨((HB.out.cell (World.block_lt_of_cell? w _ hw342_0)).trans hw342_0), ((HB.out.cell (World.block_lt_of_cell? w _ hw342_1)).trans hw342_1), ((HB.out.cell (World.block_lt_of_cell? w _ hw342_2)).trans hw342_2), ((HB.out.cell (World.block_lt_of_cell? w _ hw344_0)).trans hw344_0), ((HB.out.cell (World.block_lt_of_cell? w _ hw344_1)).trans hw344_1), ((HB.out.cell (World.block_lt_of_cell? w _ hw344_2)).trans hw344_2), ((HB.out.cell (World.block_lt_of_cell? w _ hw346_0)).trans hw346_0), ((HB.out.cell (World.block_lt_of_cell? w _ hw346_1)).trans hw346_1), ((HB.out.cell (World.block_lt_of_cell? w _ hw346_2)).trans hw346_2)⟩ (fun hHeld => ?_); refine with_tabW colophonref11_Build.tab8 colophonref11_Build.bits8 (fun HT_ HW_ => ?_)
          generalize wr.drew = w15 at HO_6 HB hx342_0 hx342_1 hx342_2 hx344_0 hx344_1 hx344_2 hx346_0 hx346_1 hx346_2 hHeld ⊢
          refine pure_ (i := 0) (N := some 25) (v := ?_) (a' := ?_) #[true, false, false, false, false, false, false, false, false, false, false, false, false, false, false, false, false, false, false, false, false, false, false] rfl rfl (any_of HT_.out (by kernel_rfl)) (fun _ _ _ h => h) (Or.inl ⟨by rfl, ?_⟩) ?_ ?_
          rotate_left
          ·intro w'
           go_simp
           with_reducible rfl
          rotate_left
          ·simp only [Act.put, List.setIfInBounds_toArray, List.set_cons_zero, List.set_cons_succ, i64_w, i32_w]
           rfl
          refine pure_ (i := 1) (N := some 26) (v := ?_) (a' := ?_) #[true, true, false, false, false, false, false, false, false, false, false, false, false, false, false, false, false, false, false, false, false, false, false] rfl rfl (any_of HT_.out (by kernel_rfl)) (fun _ _ _ h => h) (Or.inl ⟨by rfl, ?_⟩) ?_ ?_
          rotate_left
          ·intro w'
           go_simp
           with_reducible rfl
          rotate_left
          ·simp only [Act.put, List.setIfInBounds_toArray, List.set_cons_zero, List.set_cons_succ, i64_w, i32_w]
           rfl
          refine pure_ (i := 2) (N := some 27) (v := ?_) (a' := ?_) #[true, true, true, false, false, false, false, false, false, false, false, false, false, false, false, false, false, false, false, false, false, false, false] rfl rfl (any_of HT_.out (by kernel_rfl)) (fun _ _ _ h => h) (Or.inl ⟨by rfl, ?_⟩) ?_ ?_
          rotate_left
          ·intro w'
           go_simp
           with_reducible rfl
          rotate_left
          ·simp only [Act.put, List.setIfInBounds_toArray, List.set_cons_zero, List.set_cons_succ, i64_w, i32_w]
           rfl
          refine pure_ (i := 3) (N := some 28) (v := ?_) (a' := ?_) #[true, true, true, true, false, false, false, false, false, false, false, false, false, false, false, false, false, false, false, false, false, false, false] rfl rfl (any_of HT_.out (by kernel_rfl)) (fun _ _ _ h => h) (Or.inl ⟨by rfl, ?_⟩) ?_ ?_
          rotate_left
          ·intro w'
           go_simp
           with_reducible rfl
          rotate_left
          ·simp only [Act.put, List.setIfInBounds_toArray, List.set_cons_zero, List.set_cons_succ, i64_w, i32_w]
           rfl
          refine pure_ (i := 4) (N := some 29) (v := ?_) (a' := ?_) #[true, true, true, true, true, false, false, false, false, false, false, false, false, false, false, false, false, false, false, false, false, false, false] rfl rfl (any_of HT_.out (by kernel_rfl)) (fun _ _ _ h => h) (Or.inl ⟨by rfl, ?_⟩) ?_ ?_
          rotate_left
          ·intro w'
           go_simp
           with_reducible rfl
          rotate_left
          ·simp only [Act.put, List.setIfInBounds_toArray, List.set_cons_zero, List.set_cons_succ, i64_w, i32_w]
           rfl
          refine pure_ (i := 7) (N := some 32) (v := ?_) (a' := ?_) #[true, true, true, true, true, false, false, true, false, false, false, false, false, false, false, false, false, false, false, false, false, false, false] rfl rfl (any_of HT_.out (by kernel_rfl)) (fun _ _ _ h => h) (Or.inl ⟨by rfl, ?_⟩) ?_ ?_
          rotate_left
          ·intro w'
           go_simp
           with_reducible rfl
          rotate_left
          ·simp only [Act.put, List.setIfInBounds_toArray, List.set_cons_zero, List.set_cons_succ, i64_w, i32_w]
           rfl
          refine pure_ (i := 8) (N := some 33) (v := ?_) (a' := ?_) #[true, true, true, true, true, false, false, true, true, false, false, false, false, false, false, false, false, false, false, false, false, false, false] rfl rfl (any_of HT_.out (by kernel_rfl)) (fun _ _ _ h => h) (Or.inl ⟨by rfl, ?_⟩) ?_ ?_
          rotate_left
          ·intro w'
           go_simp
           with_reducible rfl
          rotate_left
          ·simp only [Act.put, List.setIfInBounds_toArray, List.set_cons_zero, List.set_cons_succ, i64_w, i32_w]
           rfl
          refine pure_ (i := 9) (N := some 34) (v := ?_) (a' := ?_) #[true, true, true, true, true, false, false, true, true, true, false, false, false, false, false, false, false, false, false, false, false, false, false] rfl rfl (any_of HT_.out (by kernel_rfl)) (fun _ _ _ h => h) (Or.inl ⟨by rfl, ?_⟩) ?_ ?_
          rotate_left
          ·intro w'
           go_simp
           with_reducible rfl
          rotate_left
          ·simp only [Act.put, List.setIfInBounds_toArray, List.set_cons_zero, List.set_cons_succ, i64_w, i32_w]
           rfl
          refine pure_ (i := 10) (N := some 35) (v := ?_) (a' := ?_) #[true, true, true, true, true, false, false, true, true, true, true, false, false, false, false, false, false, false, false, false, false, false, false] rfl rfl (any_of HT_.out (by kernel_rfl)) (fun _ _ _ h => h) (Or.inl ⟨by rfl, ?_⟩) ?_ ?_
          rotate_left
          ·intro w'
           go_simp
           with_reducible rfl
          rotate_left
          ·simp only [Act.put, List.setIfInBounds_toArray, List.set_cons_zero, List.set_cons_succ, i64_w, i32_w]
           rfl
          refine pure_ (i := 14) (N := some 39) (v := ?_) (a' := ?_) #[true, true, true, true, true, false, false, true, true, true, true, false, false, false, true, false, false, false, false, false, false, false, false] rfl rfl (any_of HT_.out (by kernel_rfl)) (fun _ _ _ h => h) (Or.inl ⟨by rfl, ?_⟩) ?_ ?_
          rotate_left
          ·intro w'
           go_simp
           with_reducible rfl
          rotate_left
          ·simp only [Act.put, List.setIfInBounds_toArray, List.set_cons_zero, List.set_cons_succ, i64_w, i32_w]
           rfl
          refine pure_ (i := 15) (N := some 40) (v := ?_) (a' := ?_) #[true, true, true, true, true, false, false, true, true, true, true, false, false, false, true, true, false, false, false, false, false, false, false] rfl rfl (any_of HT_.out (by kernel_rfl)) (fun _ _ _ h => h) (Or.inl ⟨by rfl, ?_⟩) ?_ ?_
          rotate_left
          ·intro w'
           go_simp
           with_reducible rfl
          rotate_left
          ·simp only [Act.put, List.setIfInBounds_toArray, List.set_cons_zero, List.set_cons_succ, i64_w, i32_w]
           rfl
          refine pure_ (i := 16) (N := some 41) (v := ?_) (a' := ?_) #[true, true, true, true, true, false, false, true, true, true, true, false, false, false, true, true, true, false, false, false, false, false, false] rfl rfl (any_of HT_.out (by kernel_rfl)) (fun _ _ _ h => h) (Or.inl ⟨by rfl, ?_⟩) ?_ ?_
          rotate_left
          ·intro w'
           go_simp
           with_reducible rfl
          rotate_left
          ·simp only [Act.put, List.setIfInBounds_toArray, List.set_cons_zero, List.set_cons_succ, i64_w, i32_w]
           rfl
          refine pure_ (i := 17) (N := some 42) (v := ?_) (a' := ?_) #[true, true, true, true, true, false, false, true, true, true, true, false, false, false, true, true, true, true, false, false, false, false, false] rfl rfl (any_of HT_.out (by kernel_rfl)) (fun _ _ _ h => h) (Or.inl ⟨by rfl, ?_⟩) ?_ ?_
          rotate_left
          ·intro w'
           go_simp
           with_reducible rfl
          rotate_left
          ·simp only [Act.put, List.setIfInBounds_toArray, List.set_cons_zero, List.set_cons_succ, i64_w, i32_w]
           rfl
          refine take_ (i := 5) (N := some 30) (v := ?_) (a' := ?_) #[true, true, true, true, true, true, false, true, true, true, true, false, false, false, true, true, true, true, false, false, false, false, false] rfl rfl (take_ofW HT_.out HW_.out (by kernel_rfl)) (fun _ _ _ h => h) (Or.inl ⟨by rfl, ?_⟩) hHeld ?_ ?_
          rotate_left
          ·rintro w' ⟨s0, s1, s2, s3, s4, s5, s6, s7, s8⟩
           go_simp
           with_reducible rfl
          rotate_left
          ·simp only [Act.put, List.setIfInBounds_toArray, List.set_cons_zero, List.set_cons_succ, i64_w, i32_w]
           rfl
          refine take_ (i := 11) (N := some 36) (v := ?_) (a' := ?_) #[true, true, true, true, true, true, false, true, true, true, true, true, false, false, true, true, true, true, false, false, false, false, false] rfl rfl (take_ofW HT_.out HW_.out (by kernel_rfl)) (fun _ _ _ h => h) (Or.inl ⟨by rfl, ?_⟩) hHeld ?_ ?_
          rotate_left
          ·rintro w' ⟨s0, s1, s2, s3, s4, s5, s6, s7, s8⟩
           go_simp
           with_reducible rfl
          rotate_left
          ·simp only [Act.put, List.setIfInBounds_toArray, List.set_cons_zero, List.set_cons_succ, i64_w, i32_w]
           rfl
          refine take_ (i := 18) (N := some 43) (v := ?_) (a' := ?_) #[true, true, true, true, true, true, false, true, true, true, true, true, false, false, true, true, true, true, true, false, false, false, false] rfl rfl (take_ofW HT_.out HW_.out (by kernel_rfl)) (fun _ _ _ h => h) (Or.inl ⟨by rfl, ?_⟩) hHeld ?_ ?_
          rotate_left
          ·rintro w' ⟨s0, s1, s2, s3, s4, s5, s6, s7, s8⟩
           go_simp
           with_reducible rfl
          rotate_left
          ·simp only [Act.put, List.setIfInBounds_toArray, List.set_cons_zero, List.set_cons_succ, i64_w, i32_w]
           rfl
          refine one_ (i := 6) (N := some 31) #[true, true, true, true, true, true, true, true, true, true, true, true, false, false, true, true, true, true, true, false, false, false, false] rfl rfl (one_of HT_.out (by kernel_rfl)) (by decide) (fun K hK => ?_)
          refine goes_ Try.func30 (by kernel_rfl) rfl #[.int .i64 ((rd_T47 l0 x7_1).f0)] (by rfl) rfl rfl (by (try simp only [List.map_toArray, List.map_cons, List.map_nil]); first | done | rfl | (simp only [List.length_drop, List.length_take]; rfl)) ?_
          with_reducible refine (colophonref11_fourb.calls ((rd_T47 l0 x7_1).f0) t343 _ A9.out).mono ?_
          rintro e w16 ⟨rfl, hb⟩
          refine ⟨_, rfl, ?_⟩
          have n0_ := Aside0.mk (Kd.R_below (by (with_reducible repeat (first | apply Kd.R_alloc | apply Kd.R_drewN | apply Kd.R_drew)); exact HO_6.out) hb)
          have n1_ := Aside0.mk (below_step (by repeat (first | (with_reducible first | exact HB.out | apply below_alloc | apply pw_below_drewN | apply below_drew1) | exact HB.out)) hb)
          clear HO_6
          clear HB
          have HO_6 := n0_
          have HB := n1_
          clear n0_ n1_
          (try clear hb)
          (try clear hb2)
          (try clear hk)
          (try clear hi)
          refine hK.out _ _ ⟨((HB.out.cell (World.block_lt_of_cell? w _ hw342_0)).trans hw342_0), ((HB.out.cell (World.block_lt_of_cell? w _ hw342_1)).trans hw342_1), ((HB.out.cell (World.block_lt_of_cell? w _ hw342_2)).trans hw342_2), ((HB.out.cell (World.block_lt_of_cell? w _ hw344_0)).trans hw344_0), ((HB.out.cell (World.block_lt_of_cell? w _ hw344_1)).trans hw344_1), ((HB.out.cell (World.block_lt_of_cell? w _ hw344_2)).trans hw344_2), ((HB.out.cell (World.block_lt_of_cell? w _ hw346_0)).trans hw346_0), ((HB.out.cell (World.block_lt_of_cell? w _ hw346_1)).trans hw346_1), ((HB.out.cell (World.block_lt_of_cell? w _ hw346_2)).trans hw346_2)⟩ (fun hHeld => ?_)
          clear hK K
          refine norm_ (a' := ?_) ?_ ?_
          rotate_left
          ·show Act.put _ (some 31) _ = _
           simp only [Act.put, List.setIfInBounds_toArray, List.set_cons_zero, List.set_cons_succ, i64_w, i32_w]
           rfl
          refine one_ (i := 12) (N := some 37) #[true, true, true, true, true, true, true, true, true, true, true, true, true, false, true, true, true, true, true, false, false, false, false] rfl rfl (one_of HT_.out (by kernel_rfl)) (by decide) (fun K hK => ?_)
          refine goes_ Try.func30 (by kernel_rfl) rfl #[.int .i64 ((rd_T47 l0 x7_1).f1)] (by rfl) rfl rfl (by (try simp only [List.map_toArray, List.map_cons, List.map_nil]); first | done | rfl | (simp only [List.length_drop, List.length_take]; rfl)) ?_
          with_reducible refine (colophonref11_fourb.calls ((rd_T47 l0 x7_1).f1) t345 _ A10.out).mono ?_
          rintro e w17 ⟨rfl, hb⟩
          refine ⟨_, rfl, ?_⟩
          have n0_ := Aside0.mk (Kd.R_below (by (with_reducible repeat (first | apply Kd.R_alloc | apply Kd.R_drewN | apply Kd.R_drew)); exact HO_6.out) hb)
          have n1_ := Aside0.mk (below_step (by repeat (first | (with_reducible first | exact HB.out | apply below_alloc | apply pw_below_drewN | apply below_drew1) | exact HB.out)) hb)
          clear HO_6
          clear HB
          have HO_6 := n0_
          have HB := n1_
          clear n0_ n1_
          (try clear hb)
          (try clear hb2)
          (try clear hk)
          (try clear hi)
          refine hK.out _ _ ⟨((HB.out.cell (World.block_lt_of_cell? w _ hw342_0)).trans hw342_0), ((HB.out.cell (World.block_lt_of_cell? w _ hw342_1)).trans hw342_1), ((HB.out.cell (World.block_lt_of_cell? w _ hw342_2)).trans hw342_2), ((HB.out.cell (World.block_lt_of_cell? w _ hw344_0)).trans hw344_0), ((HB.out.cell (World.block_lt_of_cell? w _ hw344_1)).trans hw344_1), ((HB.out.cell (World.block_lt_of_cell? w _ hw344_2)).trans hw344_2), ((HB.out.cell (World.block_lt_of_cell? w _ hw346_0)).trans hw346_0), ((HB.out.cell (World.block_lt_of_cell? w _ hw346_1)).trans hw346_1), ((HB.out.cell (World.block_lt_of_cell? w _ hw346_2)).trans hw346_2)⟩ (fun hHeld => ?_)
          clear hK K
          refine norm_ (a' := ?_) ?_ ?_
          rotate_left
          ·show Act.put _ (some 37) _ = _
           simp only [Act.put, List.setIfInBounds_toArray, List.set_cons_zero, List.set_cons_succ, i64_w, i32_w]
           rfl
          refine pure_ (i := 13) (N := some 38) (v := ?_) (a' := ?_) #[true, true, true, true, true, true, true, true, true, true, true, true, true, true, true, true, true, true, true, false, false, false, false] rfl rfl (any_of HT_.out (by kernel_rfl)) (fun _ _ _ h => h) (Or.inl ⟨by rfl, ?_⟩) ?_ ?_
          rotate_left
          ·intro w'
           go_simp
           with_reducible rfl
          rotate_left
          ·simp only [Act.put, List.setIfInBounds_toArray, List.set_cons_zero, List.set_cons_succ, i64_w, i32_w]
           rfl
          refine one_ (i := 19) (N := some 44) #[true, true, true, true, true, true, true, true, true, true, true, true, true, true, true, true, true, true, true, true, false, false, false] rfl rfl (one_of HT_.out (by kernel_rfl)) (by decide) (fun K hK => ?_)
          refine goes_ Try.func30 (by kernel_rfl) rfl #[.int .i64 ((rd_T47 l0 x7_1).f2)] (by rfl) rfl rfl (by (try simp only [List.map_toArray, List.map_cons, List.map_nil]); first | done | rfl | (simp only [List.length_drop, List.length_take]; rfl)) ?_
          with_reducible refine (colophonref11_fourb.calls ((rd_T47 l0 x7_1).f2) t347 _ A12.out).mono ?_
          rintro e w18 ⟨rfl, hb⟩
          refine ⟨_, rfl, ?_⟩
          have n0_ := Aside0.mk (Kd.R_below (by (with_reducible repeat (first | apply Kd.R_alloc | apply Kd.R_drewN | apply Kd.R_drew)); exact HO_6.out) hb)
          have n1_ := Aside0.mk (below_step (by repeat (first | (with_reducible first | exact HB.out | apply below_alloc | apply pw_below_drewN | apply below_drew1) | exact HB.out)) hb)
          clear HO_6
          clear HB
          have HO_6 := n0_
          have HB := n1_
          clear n0_ n1_
          (try clear hb)
          (try clear hb2)
          (try clear hk)
          (try clear hi)
          refine hK.out _ _ ⟨((HB.out.cell (World.block_lt_of_cell? w _ hw342_0)).trans hw342_0), ((HB.out.cell (World.block_lt_of_cell? w _ hw342_1)).trans hw342_1), ((HB.out.cell (World.block_lt_of_cell? w _ hw342_2)).trans hw342_2), ((HB.out.cell (World.block_lt_of_cell? w _ hw344_0)).trans hw344_0), ((HB.out.cell (World.block_lt_of_cell? w _ hw344_1)).trans hw344_1), ((HB.out.cell (World.block_lt_of_cell? w _ hw344_2)).trans hw344_2), ((HB.out.cell (World.block_lt_of_cell? w _ hw346_0)).trans hw346_0), ((HB.out.cell (World.block_lt_of_cell? w _ hw346_1)).trans hw346_1), ((HB.out.cell (World.block_lt_of_cell? w _ hw346_2)).trans hw346_2)⟩ (fun hHeld => ?_)
          clear hK K
          refine norm_ (a' := ?_) ?_ ?_
          rotate_left
          ·show Act.put _ (some 44) _ = _
           simp only [Act.put, List.setIfInBounds_toArray, List.set_cons_zero, List.set_cons_succ, i64_w, i32_w]
           rfl
          refine pure_ (i := 20) (N := some 45) (v := ?_) (a' := ?_) #[true, true, true, true, true, true, true, true, true, true, true, true, true, true, true, true, true, true, true, true, true, false, false] rfl rfl (any_of HT_.out (by kernel_rfl)) (fun _ _ _ h => h) (Or.inl ⟨by rfl, ?_⟩) ?_ ?_
          rotate_left
          ·intro w'
           go_simp
           with_reducible rfl
          rotate_left
          ·simp only [Act.put, List.setIfInBounds_toArray, List.set_cons_zero, List.set_cons_succ, i64_w, i32_w]
           rfl
          refine one_ (i := 21) (N := some 46) #[true, true, true, true, true, true, true, true, true, true, true, true, true, true, true, true, true, true, true, true, true, true, false] rfl rfl (one_of HT_.out (by kernel_rfl)) (by decide) (fun K hK => ?_)
          refine pw_append_str_step (w0 := w) w.heap.size (by rfl) (.tmp 25) _ 43 9 5 rfl Try.underlying43 Try.underlying9 info5 u6 x6_1 ((t343 ++ t345) ++ t347) rfl rfl ?aO ?aB ?aS ?aL ?_
          (case aB => exact (by repeat (first | (with_reducible first | exact HB.out | apply below_alloc | apply pw_below_drewN | apply below_drew1) | exact HB.out)))
          (case aO => exact (Kd.own_of_R (by (with_reducible repeat (first | apply Kd.R_alloc | apply Kd.R_drewN | apply Kd.R_drew)); exact HO_6.out)))
          (case aS => exact (below_size (by repeat (first | (with_reducible first | exact HB.out | apply below_alloc | apply pw_below_drewN | apply below_drew1) | exact HB.out))))
          (case aL => have := LMc14.out; omega)
          intro v349 w19 ho0 hb hg
          have ho := Kd.R_of_own (h1 := fun _ => rfl) (ok := fun _ => True) ho0 (fun _ _ => trivial)
          clear ho0
          have hat := True.intro
          rw [← Ny348.out] at ho
          change Kd.R (Kd.int .u8) 5 w19 w.heap.size (fun _ => True) v349 y348 at ho
          have n0_ := Aside0.mk (hb)
          have n1_ := Aside0.mk (ho)
          clear HB
          clear HO_6
          have HB := n0_
          have HO350 := n1_
          clear n0_ n1_
          clear ho hb hg hat
          refine hK.out _ _ ⟨((HB.out.cell (World.block_lt_of_cell? w _ hw342_0)).trans hw342_0), ((HB.out.cell (World.block_lt_of_cell? w _ hw342_1)).trans hw342_1), ((HB.out.cell (World.block_lt_of_cell? w _ hw342_2)).trans hw342_2), ((HB.out.cell (World.block_lt_of_cell? w _ hw344_0)).trans hw344_0), ((HB.out.cell (World.block_lt_of_cell? w _ hw344_1)).trans hw344_1), ((HB.out.cell (World.block_lt_of_cell? w _ hw344_2)).trans hw344_2), ((HB.out.cell (World.block_lt_of_cell? w _ hw346_0)).trans hw346_0), ((HB.out.cell (World.block_lt_of_cell? w _ hw346_1)).trans hw346_1), ((HB.out.cell (World.block_lt_of_cell? w _ hw346_2)).trans hw346_2)⟩ (fun hHeld => ?_)
          clear hK K
          refine norm_ (a' := ?_) ?_ ?_
          rotate_left
          ·show Act.put _ (some 46) _ = _
           simp only [Act.put, List.setIfInBounds_toArray, List.set_cons_zero, List.set_cons_succ, i64_w, i32_w]
           rfl
          refine pure_ (i := 22) (N := some 6) (v := ?_) (a' := ?_) #[true, true, true, true, true, true, true, true, true, true, true, true, true, true, true, true, true, true, true, true, true, true, true] rfl rfl (any_of HT_.out (by kernel_rfl)) (fun _ _ _ h => h) (Or.inl ⟨by rfl, ?_⟩) ?_ ?_
          rotate_left
          ·intro w'
           go_simp
           with_reducible rfl
          rotate_left
          ·simp only [Act.put, List.setIfInBounds_toArray, List.set_cons_zero, List.set_cons_succ, i64_w, i32_w]
           rfl
          refine done_ (done_of HT_.out (by kernel_rfl)) ?_
          try go_wp2
          go_roundg k1
          case measure => have := HK1.out; omega
          case rel => exact ⟨(y348), (wrap64 (x7_1 + 1)), (by first | rfl | (simp; done) | (simp [*]; done)), H', ⟨by have := HK1.out; omega⟩, ⟨by (with_reducible repeat (first | apply Kd.R_alloc | apply Kd.R_drewN | apply Kd.R_drew)); exact HO350.out⟩, ⟨by repeat (first | (with_reducible first | exact HB.out | apply below_alloc | apply pw_below_drewN | apply below_drew1) | exact HB.out)⟩⟩
         ·rw [if_neg c14] at H
          exact absurd H (by simp)
        ·rw [if_neg c13] at H
         exact absurd H (by simp)
       ·rw [if_neg c11] at H
        exact absurd H (by simp)
      ·rw [if_neg c8] at H
       exact absurd H (by simp)
     ·rw [if_neg c7] at H
      have c7b0 : decide (x7_1 < (l0.length : Int)) = false := decide_eq_false c7
      clear c7
      replace H := Option.bind_eq_some_iff.mp H
      obtain ⟨t351, A200, H⟩ := H
      (try dsimp only at H)
      have A20 := Aside0.mk A200
      clear A200
      by_cases c21 : 4 + t351.size ≤ 9223372036854775807
      ·rw [if_pos c21] at H
       have c21b0 := eq_true c21
       have c21b1 : decide (4 + t351.size ≤ 9223372036854775807) = true := decide_eq_true c21
       try have c21b2 : (9223372036854775807 < 4 + t351.size) = False := eq_false (Nat.not_lt.2 c21)
       replace H := Option.bind_eq_some_iff.mp H
       obtain ⟨t352, A220, H⟩ := H
       (try dsimp only at H)
       have A22 := Aside0.mk A220
       clear A220
       by_cases c23 : ((⟨#[0, 0, 0, 1]⟩ : ByteArray) ++ t351).size + t352.size ≤ 9223372036854775807
       ·rw [if_pos c23] at H
        have c23b0 := eq_true c23
        have c23b1 : decide (((⟨#[0, 0, 0, 1]⟩ : ByteArray) ++ t351).size + t352.size ≤ 9223372036854775807) = true := decide_eq_true c23
        try (have c23b3 : (9223372036854775807 < 4 + t351.size + t352.size) = False := eq_false (by have h_ := c23; simp only [ByteArray.size_append] at h_; exact Nat.not_lt.2 h_))
        try have c23b2 : (9223372036854775807 < ((⟨#[0, 0, 0, 1]⟩ : ByteArray) ++ t351).size + t352.size) = False := eq_false (Nat.not_lt.2 c23)
        replace H := Option.bind_eq_some_iff.mp H
        obtain ⟨t353, A240, H⟩ := H
        (try dsimp only at H)
        have A24 := Aside0.mk A240
        clear A240
        by_cases c25 : (((⟨#[0, 0, 0, 1]⟩ : ByteArray) ++ t351) ++ t352).size + t353.size ≤ 9223372036854775807
        ·rw [if_pos c25] at H
         have c25b0 := eq_true c25
         have c25b1 : decide ((((⟨#[0, 0, 0, 1]⟩ : ByteArray) ++ t351) ++ t352).size + t353.size ≤ 9223372036854775807) = true := decide_eq_true c25
         try (have c25b3 : (9223372036854775807 < 4 + t351.size + t352.size + t353.size) = False := eq_false (by have h_ := c25; simp only [ByteArray.size_append] at h_; exact Nat.not_lt.2 h_))
         try have c25b2 : (9223372036854775807 < (((⟨#[0, 0, 0, 1]⟩ : ByteArray) ++ t351) ++ t352).size + t353.size) = False := eq_false (Nat.not_lt.2 c25)
         by_cases c26 : ((((⟨#[0, 0, 0, 1]⟩ : ByteArray) ++ t351) ++ t352) ++ t353).size + 4 ≤ 9223372036854775807
         ·rw [if_pos c26] at H
          have c26b0 := eq_true c26
          have c26b1 : decide (((((⟨#[0, 0, 0, 1]⟩ : ByteArray) ++ t351) ++ t352) ++ t353).size + 4 ≤ 9223372036854775807) = true := decide_eq_true c26
          try (have c26b3 : (9223372036854775807 < 4 + t351.size + t352.size + t353.size + 4) = False := eq_false (by have h_ := c26; simp only [ByteArray.size_append] at h_; exact Nat.not_lt.2 h_))
          try have c26b2 : (9223372036854775807 < ((((⟨#[0, 0, 0, 1]⟩ : ByteArray) ++ t351) ++ t352) ++ t353).size + 4) = False := eq_false (Nat.not_lt.2 c26)
          replace H := Option.bind_eq_some_iff.mp H
          obtain ⟨t354, A270, H⟩ := H
          (try dsimp only at H)
          have A27 := Aside0.mk A270
          clear A270
          by_cases c28 : (((((⟨#[0, 0, 0, 1]⟩ : ByteArray) ++ t351) ++ t352) ++ t353) ++ (⟨#[0, 12, 0, 0]⟩ : ByteArray)).size + t354.size ≤ 9223372036854775807
          ·rw [if_pos c28] at H
           have c28b0 := eq_true c28
           have c28b1 : decide ((((((⟨#[0, 0, 0, 1]⟩ : ByteArray) ++ t351) ++ t352) ++ t353) ++ (⟨#[0, 12, 0, 0]⟩ : ByteArray)).size + t354.size ≤ 9223372036854775807) = true := decide_eq_true c28
           try (have c28b3 : (9223372036854775807 < 4 + t351.size + t352.size + t353.size + 4 + t354.size) = False := eq_false (by have h_ := c28; simp only [ByteArray.size_append] at h_; exact Nat.not_lt.2 h_))
           try have c28b2 : (9223372036854775807 < (((((⟨#[0, 0, 0, 1]⟩ : ByteArray) ++ t351) ++ t352) ++ t353) ++ (⟨#[0, 12, 0, 0]⟩ : ByteArray)).size + t354.size) = False := eq_false (Nat.not_lt.2 c28)
           replace H := Option.bind_eq_some_iff.mp H
           obtain ⟨t355, A290, H⟩ := H
           (try dsimp only at H)
           have A29 := Aside0.mk A290
           clear A290
           by_cases c30 : ((((((⟨#[0, 0, 0, 1]⟩ : ByteArray) ++ t351) ++ t352) ++ t353) ++ (⟨#[0, 12, 0, 0]⟩ : ByteArray)) ++ t354).size + t355.size ≤ 9223372036854775807
           ·rw [if_pos c30] at H
            have c30b0 := eq_true c30
            have c30b1 : decide (((((((⟨#[0, 0, 0, 1]⟩ : ByteArray) ++ t351) ++ t352) ++ t353) ++ (⟨#[0, 12, 0, 0]⟩ : ByteArray)) ++ t354).size + t355.size ≤ 9223372036854775807) = true := decide_eq_true c30
            try (have c30b3 : (9223372036854775807 < 4 + t351.size + t352.size + t353.size + 4 + t354.size + t355.size) = False := eq_false (by have h_ := c30; simp only [ByteArray.size_append] at h_; exact Nat.not_lt.2 h_))
            try have c30b2 : (9223372036854775807 < ((((((⟨#[0, 0, 0, 1]⟩ : ByteArray) ++ t351) ++ t352) ++ t353) ++ (⟨#[0, 12, 0, 0]⟩ : ByteArray)) ++ t354).size + t355.size) = False := eq_false (Nat.not_lt.2 c30)
            replace H := Option.bind_eq_some_iff.mp H
            obtain ⟨t356, A310, H⟩ := H
            (try dsimp only at H)
            have A31 := Aside0.mk A310
            clear A310
            by_cases c32 : (((((((⟨#[0, 0, 0, 1]⟩ : ByteArray) ++ t351) ++ t352) ++ t353) ++ (⟨#[0, 12, 0, 0]⟩ : ByteArray)) ++ t354) ++ t355).size + t356.size ≤ 9223372036854775807
            ·rw [if_pos c32] at H
             have c32b0 := eq_true c32
             have c32b1 : decide ((((((((⟨#[0, 0, 0, 1]⟩ : ByteArray) ++ t351) ++ t352) ++ t353) ++ (⟨#[0, 12, 0, 0]⟩ : ByteArray)) ++ t354) ++ t355).size + t356.size ≤ 9223372036854775807) = true := decide_eq_true c32
             try (have c32b3 : (9223372036854775807 < 4 + t351.size + t352.size + t353.size + 4 + t354.size + t355.size + t356.size) = False := eq_false (by have h_ := c32; simp only [ByteArray.size_append] at h_; exact Nat.not_lt.2 h_))
             try have c32b2 : (9223372036854775807 < (((((((⟨#[0, 0, 0, 1]⟩ : ByteArray) ++ t351) ++ t352) ++ t353) ++ (⟨#[0, 12, 0, 0]⟩ : ByteArray)) ++ t354) ++ t355).size + t356.size) = False := eq_false (Nat.not_lt.2 c32)
             by_cases c33 : ((((((((⟨#[0, 0, 0, 1]⟩ : ByteArray) ++ t351) ++ t352) ++ t353) ++ (⟨#[0, 12, 0, 0]⟩ : ByteArray)) ++ t354) ++ t355) ++ t356).size + (strOfNums x6_1).size ≤ 9223372036854775807
             ·rw [if_pos c33] at H
              have c33b0 := eq_true c33
              have c33b1 : decide (((((((((⟨#[0, 0, 0, 1]⟩ : ByteArray) ++ t351) ++ t352) ++ t353) ++ (⟨#[0, 12, 0, 0]⟩ : ByteArray)) ++ t354) ++ t355) ++ t356).size + (strOfNums x6_1).size ≤ 9223372036854775807) = true := decide_eq_true c33
              try (have c33b3 : (9223372036854775807 < 4 + t351.size + t352.size + t353.size + 4 + t354.size + t355.size + t356.size + (strOfNums x6_1).size) = False := eq_false (by have h_ := c33; simp only [ByteArray.size_append] at h_; exact Nat.not_lt.2 h_))
              try have c33b2 : (9223372036854775807 < ((((((((⟨#[0, 0, 0, 1]⟩ : ByteArray) ++ t351) ++ t352) ++ t353) ++ (⟨#[0, 12, 0, 0]⟩ : ByteArray)) ++ t354) ++ t355) ++ t356).size + (strOfNums x6_1).size) = False := eq_false (Nat.not_lt.2 c33)
              simp only [Option.some.injEq, Prod.mk.injEq] at H
              obtain ⟨rfl, rfl⟩ := H
              try go_wp2
              have n0_ := Aside0.mk (Kd.R_drew HO_6.out)
              have n1_ := Aside0.mk (below_drew1 HB.out)
              clear HO_6
              clear HB
              have HO_6 := n0_
              have HB := n1_
              clear n0_ n1_
              obtain ⟨Ao35, co35, eo35⟩ := Kd.R_slice HO_6.out
              (first | subst eo35 | (injection eo35 with f1_ f2_ f3_; have f4_ := f1_.symm; have f5_ := f3_.symm; clear f1_ f2_ f3_; subst f4_; subst f5_))
              refine start_ (n := 23) (S := fun w' => (convert 43 9 (.slice Ao35 x6_1.length co35)).run Try.prog w' = .ok (.string (strOfNums x6_1)) w') (ds := []) #[false, false, false, false, false, false, false, false, false, false, false, false, false, false, false, false, false, false, false, false, false, false, false] (by kernel_rfl) rfl rfl ((own_string (P := Try.prog) Try.underlying43 Try.underlying5 Try.underlying9 (Kd.own_of_R HO_6.out))) (fun hHeld => ?_); refine with_tabW colophonref11_Build.tab9 colophonref11_Build.bits9 (fun HT_ HW_ => ?_)
              generalize wr.drew = w34 at HO_6 HB hHeld ⊢
              refine pure_ (i := 7) (N := some 54) (v := ?_) (a' := ?_) #[false, false, false, false, false, false, false, true, false, false, false, false, false, false, false, false, false, false, false, false, false, false, false] rfl rfl (any_of HT_.out (by kernel_rfl)) (fun _ _ _ h => h) (Or.inl ⟨by rfl, ?_⟩) ?_ ?_
              rotate_left
              ·intro w'
               go_simp
               with_reducible rfl
              rotate_left
              ·simp only [Act.put, List.setIfInBounds_toArray, List.set_cons_zero, List.set_cons_succ, i64_w, i32_w]
               rfl
              refine pure_ (i := 8) (N := some 55) (v := ?_) (a' := ?_) #[false, false, false, false, false, false, false, true, true, false, false, false, false, false, false, false, false, false, false, false, false, false, false] rfl rfl (any_of HT_.out (by kernel_rfl)) (fun _ _ _ h => h) (Or.inl ⟨by rfl, ?_⟩) ?_ ?_
              rotate_left
              ·intro w'
               go_simp
               with_reducible rfl
              rotate_left
              ·simp only [Act.put, List.setIfInBounds_toArray, List.set_cons_zero, List.set_cons_succ, i64_w, i32_w]
               rfl
              refine pure_ (i := 9) (N := some 56) (v := ?_) (a' := ?_) #[false, false, false, false, false, false, false, true, true, true, false, false, false, false, false, false, false, false, false, false, false, false, false] rfl rfl (any_of HT_.out (by kernel_rfl)) (fun _ _ _ h => h) (Or.inl ⟨by rfl, ?_⟩) ?_ ?_
              rotate_left
              ·intro w'
               go_simp
               with_reducible rfl
              rotate_left
              ·simp only [Act.put, List.setIfInBounds_toArray, List.set_cons_zero, List.set_cons_succ, i64_w, i32_w]
               rfl
              refine pure_ (i := 14) (N := some 61) (v := ?_) (a' := ?_) #[false, false, false, false, false, false, false, true, true, true, false, false, false, false, true, false, false, false, false, false, false, false, false] rfl rfl (any_of HT_.out (by kernel_rfl)) (fun _ _ _ h => h) (Or.inl ⟨by rfl, ?_⟩) ?_ ?_
              rotate_left
              ·intro w'
               go_simp
               with_reducible rfl
              rotate_left
              ·simp only [Act.put, List.setIfInBounds_toArray, List.set_cons_zero, List.set_cons_succ, i64_w, i32_w]
               rfl
              refine pure_ (i := 15) (N := some 62) (v := ?_) (a' := ?_) #[false, false, false, false, false, false, false, true, true, true, false, false, false, false, true, true, false, false, false, false, false, false, false] rfl rfl (any_of HT_.out (by kernel_rfl)) (fun _ _ _ h => h) (Or.inl ⟨by rfl, ?_⟩) ?_ ?_
              rotate_left
              ·intro w'
               go_simp
               with_reducible rfl
              rotate_left
              ·simp only [Act.put, List.setIfInBounds_toArray, List.set_cons_zero, List.set_cons_succ, i64_w, i32_w]
               rfl
              refine pure_ (i := 18) (N := some 65) (v := ?_) (a' := ?_) #[false, false, false, false, false, false, false, true, true, true, false, false, false, false, true, true, false, false, true, false, false, false, false] rfl rfl (any_of HT_.out (by kernel_rfl)) (fun _ _ _ h => h) (Or.inl ⟨by rfl, ?_⟩) ?_ ?_
              rotate_left
              ·intro w'
               go_simp
               with_reducible rfl
              rotate_left
              ·simp only [Act.put, List.setIfInBounds_toArray, List.set_cons_zero, List.set_cons_succ, i64_w, i32_w]
               rfl
              refine take_ (i := 19) (N := some 66) (v := ?_) (a' := ?_) #[false, false, false, false, false, false, false, true, true, true, false, false, false, false, true, true, false, false, true, true, false, false, false] rfl rfl (take_ofW HT_.out HW_.out (by kernel_rfl)) (fun _ _ _ h => h) (Or.inl ⟨by rfl, ?_⟩) hHeld ?_ ?_
              rotate_left
              ·intro w' s0
               go_simp
               with_reducible rfl
              rotate_left
              ·simp only [Act.put, List.setIfInBounds_toArray, List.set_cons_zero, List.set_cons_succ, i64_w, i32_w]
               rfl
              refine one_ (i := 0) (N := some 47) #[true, false, false, false, false, false, false, true, true, true, false, false, false, false, true, true, false, false, true, true, false, false, false] rfl rfl (one_of HT_.out (by kernel_rfl)) (by decide) (fun K hK => ?_)
              refine goes_ Try.func31 (by kernel_rfl) rfl #[.int .i64 3] (by rfl) rfl rfl (by (try simp only [List.map_toArray, List.map_cons, List.map_nil]); first | done | rfl | (simp only [List.length_drop, List.length_take]; rfl)) ?_
              with_reducible refine (colophonref11_two.calls 3 t351 _ A20.out).mono ?_
              rintro e w36 ⟨rfl, hb⟩
              refine ⟨_, rfl, ?_⟩
              have n0_ := Aside0.mk (Kd.R_below (by (with_reducible repeat (first | apply Kd.R_alloc | apply Kd.R_drewN | apply Kd.R_drew)); exact HO_6.out) hb)
              have n1_ := Aside0.mk (below_step (by repeat (first | (with_reducible first | exact HB.out | apply below_alloc | apply pw_below_drewN | apply below_drew1) | exact HB.out)) hb)
              clear HO_6
              clear HB
              have HO_6 := n0_
              have HB := n1_
              clear n0_ n1_
              (try clear hb)
              (try clear hb2)
              (try clear hk)
              (try clear hi)
              refine hK.out _ _ ((own_string (P := Try.prog) Try.underlying43 Try.underlying5 Try.underlying9 (Kd.own_of_R HO_6.out))) (fun hHeld => ?_)
              clear hK K
              refine norm_ (a' := ?_) ?_ ?_
              rotate_left
              ·show Act.put _ (some 47) _ = _
               simp only [Act.put, List.setIfInBounds_toArray, List.set_cons_zero, List.set_cons_succ, i64_w, i32_w]
               rfl
              refine pure_ (i := 1) (N := some 48) (v := ?_) (a' := ?_) #[true, true, false, false, false, false, false, true, true, true, false, false, false, false, true, true, false, false, true, true, false, false, false] rfl rfl (any_of HT_.out (by kernel_rfl)) (fun _ _ _ h => h) (Or.inl ⟨by rfl, ?_⟩) ?_ ?_
              rotate_left
              ·intro w'
               go_simp
               with_reducible rfl
              rotate_left
              ·simp only [Act.put, List.setIfInBounds_toArray, List.set_cons_zero, List.set_cons_succ, i64_w, i32_w]
               rfl
              refine one_ (i := 2) (N := some 49) #[true, true, true, false, false, false, false, true, true, true, false, false, false, false, true, true, false, false, true, true, false, false, false] rfl rfl (one_of HT_.out (by kernel_rfl)) (by decide) (fun K hK => ?_)
              refine goes_ Try.func31 (by kernel_rfl) rfl #[.int .i64 10] (by rfl) rfl rfl (by (try simp only [List.map_toArray, List.map_cons, List.map_nil]); first | done | rfl | (simp only [List.length_drop, List.length_take]; rfl)) ?_
              with_reducible refine (colophonref11_two.calls 10 t352 _ A22.out).mono ?_
              rintro e w37 ⟨rfl, hb⟩
              refine ⟨_, rfl, ?_⟩
              have n0_ := Aside0.mk (Kd.R_below (by (with_reducible repeat (first | apply Kd.R_alloc | apply Kd.R_drewN | apply Kd.R_drew)); exact HO_6.out) hb)
              have n1_ := Aside0.mk (below_step (by repeat (first | (with_reducible first | exact HB.out | apply below_alloc | apply pw_below_drewN | apply below_drew1) | exact HB.out)) hb)
              clear HO_6
              clear HB
              have HO_6 := n0_
              have HB := n1_
              clear n0_ n1_
              (try clear hb)
              (try clear hb2)
              (try clear hk)
              (try clear hi)
              refine hK.out _ _ ((own_string (P := Try.prog) Try.underlying43 Try.underlying5 Try.underlying9 (Kd.own_of_R HO_6.out))) (fun hHeld => ?_)
              clear hK K
              refine norm_ (a' := ?_) ?_ ?_
              rotate_left
              ·show Act.put _ (some 49) _ = _
               simp only [Act.put, List.setIfInBounds_toArray, List.set_cons_zero, List.set_cons_succ, i64_w, i32_w]
               rfl
              refine pure_ (i := 3) (N := some 50) (v := ?_) (a' := ?_) #[true, true, true, true, false, false, false, true, true, true, false, false, false, false, true, true, false, false, true, true, false, false, false] rfl rfl (any_of HT_.out (by kernel_rfl)) (fun _ _ _ h => h) (Or.inl ⟨by rfl, ?_⟩) ?_ ?_
              rotate_left
              ·intro w'
               go_simp
               with_reducible rfl
              rotate_left
              ·simp only [Act.put, List.setIfInBounds_toArray, List.set_cons_zero, List.set_cons_succ, i64_w, i32_w]
               rfl
              refine one_ (i := 4) (N := some 51) #[true, true, true, true, true, false, false, true, true, true, false, false, false, false, true, true, false, false, true, true, false, false, false] rfl rfl (one_of HT_.out (by kernel_rfl)) (by decide) (fun K hK => ?_)
              refine goes_ Try.func30 (by kernel_rfl) rfl #[.int .i64 12] (by rfl) rfl rfl (by (try simp only [List.map_toArray, List.map_cons, List.map_nil]); first | done | rfl | (simp only [List.length_drop, List.length_take]; rfl)) ?_
              with_reducible refine (colophonref11_fourb.calls 12 t353 _ A24.out).mono ?_
              rintro e w38 ⟨rfl, hb⟩
              refine ⟨_, rfl, ?_⟩
              have n0_ := Aside0.mk (Kd.R_below (by (with_reducible repeat (first | apply Kd.R_alloc | apply Kd.R_drewN | apply Kd.R_drew)); exact HO_6.out) hb)
              have n1_ := Aside0.mk (below_step (by repeat (first | (with_reducible first | exact HB.out | apply below_alloc | apply pw_below_drewN | apply below_drew1) | exact HB.out)) hb)
              clear HO_6
              clear HB
              have HO_6 := n0_
              have HB := n1_
              clear n0_ n1_
              (try clear hb)
              (try clear hb2)
              (try clear hk)
              (try clear hi)
              refine hK.out _ _ ((own_string (P := Try.prog) Try.underlying43 Try.underlying5 Try.underlying9 (Kd.own_of_R HO_6.out))) (fun hHeld => ?_)
              clear hK K
              refine norm_ (a' := ?_) ?_ ?_
              rotate_left
              ·show Act.put _ (some 51) _ = _
               simp only [Act.put, List.setIfInBounds_toArray, List.set_cons_zero, List.set_cons_succ, i64_w, i32_w]
               rfl
              refine pure_ (i := 5) (N := some 52) (v := ?_) (a' := ?_) #[true, true, true, true, true, true, false, true, true, true, false, false, false, false, true, true, false, false, true, true, false, false, false] rfl rfl (any_of HT_.out (by kernel_rfl)) (fun _ _ _ h => h) (Or.inl ⟨by rfl, ?_⟩) ?_ ?_
              rotate_left
              ·intro w'
               go_simp
               with_reducible rfl
              rotate_left
              ·simp only [Act.put, List.setIfInBounds_toArray, List.set_cons_zero, List.set_cons_succ, i64_w, i32_w]
               rfl
              refine pure_ (i := 6) (N := some 53) (v := ?_) (a' := ?_) #[true, true, true, true, true, true, true, true, true, true, false, false, false, false, true, true, false, false, true, true, false, false, false] rfl rfl (any_of HT_.out (by kernel_rfl)) (fun _ _ _ h => h) (Or.inl ⟨by rfl, ?_⟩) ?_ ?_
              rotate_left
              ·intro w'
               go_simp
               with_reducible rfl
              rotate_left
              ·simp only [Act.put, List.setIfInBounds_toArray, List.set_cons_zero, List.set_cons_succ, i64_w, i32_w]
               rfl
              refine one_ (i := 10) (N := some 57) #[true, true, true, true, true, true, true, true, true, true, true, false, false, false, true, true, false, false, true, true, false, false, false] rfl rfl (one_of HT_.out (by kernel_rfl)) (by decide) (fun K hK => ?_)
              refine goes_ Try.func30 (by kernel_rfl) rfl #[.int .i64 (wrap64 (16 + (x6_1.length : Int)))] (by rfl) rfl rfl (by (try simp only [List.map_toArray, List.map_cons, List.map_nil]); first | done | rfl | (simp only [List.length_drop, List.length_take]; rfl)) ?_
              with_reducible refine (colophonref11_fourb.calls (wrap64 (16 + (x6_1.length : Int))) t354 _ A27.out).mono ?_
              rintro e w39 ⟨rfl, hb⟩
              refine ⟨_, rfl, ?_⟩
              have n0_ := Aside0.mk (Kd.R_below (by (with_reducible repeat (first | apply Kd.R_alloc | apply Kd.R_drewN | apply Kd.R_drew)); exact HO_6.out) hb)
              have n1_ := Aside0.mk (below_step (by repeat (first | (with_reducible first | exact HB.out | apply below_alloc | apply pw_below_drewN | apply below_drew1) | exact HB.out)) hb)
              clear HO_6
              clear HB
              have HO_6 := n0_
              have HB := n1_
              clear n0_ n1_
              (try clear hb)
              (try clear hb2)
              (try clear hk)
              (try clear hi)
              refine hK.out _ _ ((own_string (P := Try.prog) Try.underlying43 Try.underlying5 Try.underlying9 (Kd.own_of_R HO_6.out))) (fun hHeld => ?_)
              clear hK K
              refine norm_ (a' := ?_) ?_ ?_
              rotate_left
              ·show Act.put _ (some 57) _ = _
               simp only [Act.put, List.setIfInBounds_toArray, List.set_cons_zero, List.set_cons_succ, i64_w, i32_w]
               rfl
              refine pure_ (i := 11) (N := some 58) (v := ?_) (a' := ?_) #[true, true, true, true, true, true, true, true, true, true, true, true, false, false, true, true, false, false, true, true, false, false, false] rfl rfl (any_of HT_.out (by kernel_rfl)) (fun _ _ _ h => h) (Or.inl ⟨by rfl, ?_⟩) ?_ ?_
              rotate_left
              ·intro w'
               go_simp
               with_reducible rfl
              rotate_left
              ·simp only [Act.put, List.setIfInBounds_toArray, List.set_cons_zero, List.set_cons_succ, i64_w, i32_w]
               rfl
              refine one_ (i := 12) (N := some 59) #[true, true, true, true, true, true, true, true, true, true, true, true, true, false, true, true, false, false, true, true, false, false, false] rfl rfl (one_of HT_.out (by kernel_rfl)) (by decide) (fun K hK => ?_)
              refine goes_ Try.func30 (by kernel_rfl) rfl #[.int .i64 0] (by rfl) rfl rfl (by (try simp only [List.map_toArray, List.map_cons, List.map_nil]); first | done | rfl | (simp only [List.length_drop, List.length_take]; rfl)) ?_
              with_reducible refine (colophonref11_fourb.calls 0 t355 _ A29.out).mono ?_
              rintro e w40 ⟨rfl, hb⟩
              refine ⟨_, rfl, ?_⟩
              have n0_ := Aside0.mk (Kd.R_below (by (with_reducible repeat (first | apply Kd.R_alloc | apply Kd.R_drewN | apply Kd.R_drew)); exact HO_6.out) hb)
              have n1_ := Aside0.mk (below_step (by repeat (first | (with_reducible first | exact HB.out | apply below_alloc | apply pw_below_drewN | apply below_drew1) | exact HB.out)) hb)
              clear HO_6
              clear HB
              have HO_6 := n0_
              have HB := n1_
              clear n0_ n1_
              (try clear hb)
              (try clear hb2)
              (try clear hk)
              (try clear hi)
              refine hK.out _ _ ((own_string (P := Try.prog) Try.underlying43 Try.underlying5 Try.underlying9 (Kd.own_of_R HO_6.out))) (fun hHeld => ?_)
              clear hK K
              refine norm_ (a' := ?_) ?_ ?_
              rotate_left
              ·show Act.put _ (some 59) _ = _
               simp only [Act.put, List.setIfInBounds_toArray, List.set_cons_zero, List.set_cons_succ, i64_w, i32_w]
               rfl
              refine pure_ (i := 13) (N := some 60) (v := ?_) (a' := ?_) #[true, true, true, true, true, true, true, true, true, true, true, true, true, true, true, true, false, false, true, true, false, false, false] rfl rfl (any_of HT_.out (by kernel_rfl)) (fun _ _ _ h => h) (Or.inl ⟨by rfl, ?_⟩) ?_ ?_
              rotate_left
              ·intro w'
               go_simp
               with_reducible rfl
              rotate_left
              ·simp only [Act.put, List.setIfInBounds_toArray, List.set_cons_zero, List.set_cons_succ, i64_w, i32_w]
               rfl
              refine one_ (i := 16) (N := some 63) #[true, true, true, true, true, true, true, true, true, true, true, true, true, true, true, true, true, false, true, true, false, false, false] rfl rfl (one_of HT_.out (by kernel_rfl)) (by decide) (fun K hK => ?_)
              refine goes_ Try.func30 (by kernel_rfl) rfl #[.int .i64 (l0.length : Int)] (by rfl) rfl rfl (by (try simp only [List.map_toArray, List.map_cons, List.map_nil]); first | done | rfl | (simp only [List.length_drop, List.length_take]; rfl)) ?_
              with_reducible refine (colophonref11_fourb.calls (l0.length : Int) t356 _ A31.out).mono ?_
              rintro e w41 ⟨rfl, hb⟩
              refine ⟨_, rfl, ?_⟩
              have n0_ := Aside0.mk (Kd.R_below (by (with_reducible repeat (first | apply Kd.R_alloc | apply Kd.R_drewN | apply Kd.R_drew)); exact HO_6.out) hb)
              have n1_ := Aside0.mk (below_step (by repeat (first | (with_reducible first | exact HB.out | apply below_alloc | apply pw_below_drewN | apply below_drew1) | exact HB.out)) hb)
              clear HO_6
              clear HB
              have HO_6 := n0_
              have HB := n1_
              clear n0_ n1_
              (try clear hb)
              (try clear hb2)
              (try clear hk)
              (try clear hi)
              refine hK.out _ _ ((own_string (P := Try.prog) Try.underlying43 Try.underlying5 Try.underlying9 (Kd.own_of_R HO_6.out))) (fun hHeld => ?_)
              clear hK K
              refine norm_ (a' := ?_) ?_ ?_
              rotate_left
              ·show Act.put _ (some 63) _ = _
               simp only [Act.put, List.setIfInBounds_toArray, List.set_cons_zero, List.set_cons_succ, i64_w, i32_w]
               rfl
              refine pure_ (i := 17) (N := some 64) (v := ?_) (a' := ?_) #[true, true, true, true, true, true, true, true, true, true, true, true, true, true, true, true, true, true, true, true, false, false, false] rfl rfl (any_of HT_.out (by kernel_rfl)) (fun _ _ _ h => h) (Or.inl ⟨by rfl, ?_⟩) ?_ ?_
              rotate_left
              ·intro w'
               go_simp
               with_reducible rfl
              rotate_left
              ·simp only [Act.put, List.setIfInBounds_toArray, List.set_cons_zero, List.set_cons_succ, i64_w, i32_w]
               rfl
              refine pure_ (i := 20) (N := some 67) (v := ?_) (a' := ?_) #[true, true, true, true, true, true, true, true, true, true, true, true, true, true, true, true, true, true, true, true, true, false, false] rfl rfl (any_of HT_.out (by kernel_rfl)) (fun _ _ _ h => h) (Or.inl ⟨by rfl, ?_⟩) ?_ ?_
              rotate_left
              ·intro w'
               go_simp
               with_reducible rfl
              rotate_left
              ·simp only [Act.put, List.setIfInBounds_toArray, List.set_cons_zero, List.set_cons_succ, i64_w, i32_w]
               rfl
              refine pure_ (i := 21) (N := some 4) (v := ?_) (a' := ?_) #[true, true, true, true, true, true, true, true, true, true, true, true, true, true, true, true, true, true, true, true, true, true, false] rfl rfl (any_of HT_.out (by kernel_rfl)) (fun _ _ _ h => h) (Or.inl ⟨by rfl, ?_⟩) ?_ ?_
              rotate_left
              ·intro w'
               go_simp
               with_reducible rfl
              rotate_left
              ·simp only [Act.put, List.setIfInBounds_toArray, List.set_cons_zero, List.set_cons_succ, i64_w, i32_w]
               rfl
              refine pure_ (i := 22) (N := some 5) (v := ?_) (a' := ?_) #[true, true, true, true, true, true, true, true, true, true, true, true, true, true, true, true, true, true, true, true, true, true, true] rfl rfl (any_of HT_.out (by kernel_rfl)) (fun _ _ _ h => h) (Or.inl ⟨by rfl, ?_⟩) ?_ ?_
              rotate_left
              ·intro w'
               go_simp
               with_reducible rfl
              rotate_left
              ·simp only [Act.put, List.setIfInBounds_toArray, List.set_cons_zero, List.set_cons_succ, i64_w, i32_w]
               rfl
              refine done_ (done_of HT_.out (by kernel_rfl)) ?_
              try go_wp2
              go_ret2
              exact ⟨by first | rfl | (simp [errW_none, errW_some] <;> rfl) | (simp [*, errW_none, errW_some] <;> rfl) | (((first | rw [pw_wdiv _ _ (by omega) (by omega)] | rw [pw_wdiv' _ _ (by omega) (by omega)] | rw [Go.IntWalk.wrap64_in _ (by omega)]); repeat (first | rw [pw_wdiv _ _ (by omega) (by omega)] | rw [pw_wdiv' _ _ (by omega) (by omega)] | rw [Go.IntWalk.wrap64_in _ (by omega)])); rfl), by repeat (first | (with_reducible first | exact HB.out | apply below_alloc | apply pw_below_drewN | apply below_drew1) | exact HB.out)⟩
             ·rw [if_neg c33] at H
              exact absurd H (by simp)
            ·rw [if_neg c32] at H
             exact absurd H (by simp)
           ·rw [if_neg c30] at H
            exact absurd H (by simp)
          ·rw [if_neg c28] at H
           exact absurd H (by simp)
         ·rw [if_neg c26] at H
          exact absurd H (by simp)
        ·rw [if_neg c25] at H
         exact absurd H (by simp)
       ·rw [if_neg c23] at H
        exact absurd H (by simp)
      ·rw [if_neg c21] at H
       exact absurd H (by simp)
  ·replace c5 := Bool.eq_false_iff.mpr c5
   subst c5
   have H1 : (if (l0.length : Int) > 4095 then (some ((⟨#[]⟩ : ByteArray), 110)) else (colophonref11_Build.l1 k l0 ([] : List Int) ([] : List Int) ([] : List Int) ([] : List Int) 0)) = some (r1, r2) := by rw [if_neg (show ¬ (false = true) by decide)] at H; exact H
   clear H
   have H := H1
   clear H1
   by_cases c43 : (l0.length : Int) > 4095
   ·rw [if_pos c43] at H
    have c43b0 : decide (4095 < (l0.length : Int)) = true := decide_eq_true c43
    have c43b1 : decide (4095 < l0.length) = true := decide_eq_true (by omega)
    clear c43
    simp only [Option.some.injEq, Prod.mk.injEq] at H
    obtain ⟨rfl, rfl⟩ := H
    go_enter Try.func17, Try.ntmps17
    go_wp2_with (first | ((with_reducible refine gate_callee (f := 15) rfl ?_); refine goesL_ (some 16) rfl rfl Try.func15 (by kernel_rfl) rfl #[.slice A0 l0.length c0, .int .i64 4096] rfl (by (try simp only [List.map_toArray, List.map_cons, List.map_nil]); first | done | rfl | (simp only [List.length_drop, List.length_take]; rfl)) ?_; (with_reducible refine (colophonref11_Good.calls k _ _ l0 4096 true _ ?side1 ?side2 A3.out).mono ?_); (case side1 => repeat (first | exact HR0.out | (with_reducible refine Kd.C_alloc ?_ _) | (with_reducible refine Kd.C_drewN ?_ _) | (with_reducible refine Kd.C_drew ?_))); (case side2 => exact HC0.out); rintro e w44 ⟨rfl, hb⟩; refine ⟨_, rfl, ?_⟩; have n0_ := Aside0.mk (below_step (by repeat (first | (with_reducible first | exact HB.out | apply below_alloc | apply pw_below_drewN | apply below_drew1) | exact HB.out)) hb); clear HB; have HB := n0_; clear n0_; (try clear hb)))
    go_ret2
    exact ⟨by first | rfl | (simp [errW_none, errW_some] <;> rfl) | (simp [*, errW_none, errW_some] <;> rfl) | (((first | rw [pw_wdiv _ _ (by omega) (by omega)] | rw [pw_wdiv' _ _ (by omega) (by omega)] | rw [Go.IntWalk.wrap64_in _ (by omega)]); repeat (first | rw [pw_wdiv _ _ (by omega) (by omega)] | rw [pw_wdiv' _ _ (by omega) (by omega)] | rw [Go.IntWalk.wrap64_in _ (by omega)])); rfl), by repeat (first | (with_reducible first | exact HB.out | apply below_alloc | apply pw_below_drewN | apply below_drew1) | exact HB.out)⟩
   ·rw [if_neg c43] at H
    have c43b0 : decide (4095 < (l0.length : Int)) = false := decide_eq_false c43
    have c43b1 : decide (4095 < l0.length) = false := decide_eq_false (by omega)
    clear c43
    have H' := Aside0.mk H
    clear H
    go_enter Try.func17, Try.ntmps17
    go_wp2_with (first | ((with_reducible refine gate_callee (f := 15) rfl ?_); refine goesL_ (some 16) rfl rfl Try.func15 (by kernel_rfl) rfl #[.slice A0 l0.length c0, .int .i64 4096] rfl (by (try simp only [List.map_toArray, List.map_cons, List.map_nil]); first | done | rfl | (simp only [List.length_drop, List.length_take]; rfl)) ?_; (with_reducible refine (colophonref11_Good.calls k _ _ l0 4096 true _ ?side1 ?side2 A3.out).mono ?_); (case side1 => repeat (first | exact HR0.out | (with_reducible refine Kd.C_alloc ?_ _) | (with_reducible refine Kd.C_drewN ?_ _) | (with_reducible refine Kd.C_drew ?_))); (case side2 => exact HC0.out); rintro e w45 ⟨rfl, hb⟩; refine ⟨_, rfl, ?_⟩; have n0_ := Aside0.mk (below_step (by repeat (first | (with_reducible first | exact HB.out | apply below_alloc | apply pw_below_drewN | apply below_drew1) | exact HB.out)) hb); clear HB; have HB := n0_; clear n0_; (try clear hb)))
    go_loopg [8, 9, 10, 11, 12] k (fun kq v8 v9 v10 v11 v12 w' => ∃ (x8_1 : List Int) (x9_1 : List Int) (x10_1 : List Int) (x11_1 : List Int) (x12_1 : Int), v12 = .int .i64 x12_1 ∧ Aside0 (colophonref11_Build.l1 kq l0 x8_1 x9_1 x10_1 x11_1 x12_1 = some (r1, r2)) ∧ Aside0 (kq ≤ k) ∧ Aside0 (Kd.R (Kd.int .u8) 5 w' w.heap.size (fun k_ => some k_ ≠ (v9 : Value).ownBlock ∧ some k_ ≠ (v10 : Value).ownBlock ∧ some k_ ≠ (v11 : Value).ownBlock) v8 x8_1) ∧ Aside0 (Kd.R (Kd.int .u8) 5 w' w.heap.size (fun k_ => some k_ ≠ (v8 : Value).ownBlock ∧ some k_ ≠ (v10 : Value).ownBlock ∧ some k_ ≠ (v11 : Value).ownBlock) v9 x9_1) ∧ Aside0 (Kd.R (Kd.int .u8) 5 w' w.heap.size (fun k_ => some k_ ≠ (v8 : Value).ownBlock ∧ some k_ ≠ (v9 : Value).ownBlock ∧ some k_ ≠ (v11 : Value).ownBlock) v10 x10_1) ∧ Aside0 (Kd.R (Kd.int .u8) 5 w' w.heap.size (fun k_ => some k_ ≠ (v8 : Value).ownBlock ∧ some k_ ≠ (v9 : Value).ownBlock ∧ some k_ ≠ (v10 : Value).ownBlock) v11 x11_1) ∧ Aside0 (Below w.heap.size w w'))
    case atStart => exact ⟨(([] : List Int)), (([] : List Int)), (([] : List Int)), (([] : List Int)), (0), (by first | rfl | (simp; done) | (simp [*]; done)), H', ⟨Nat.le_refl _⟩, ⟨by first | exact Kd.R_nil _ _ _ _ _ | exact Kd.N_nil _ _ _ _ _ | exact Kd.V_nil _ _ _ _ _ | exact Kd.Q_nil _ _ _ _ _ | exact Kd.S_nil _ _ _ _ _⟩, ⟨by first | exact Kd.R_nil _ _ _ _ _ | exact Kd.N_nil _ _ _ _ _ | exact Kd.V_nil _ _ _ _ _ | exact Kd.Q_nil _ _ _ _ _ | exact Kd.S_nil _ _ _ _ _⟩, ⟨by first | exact Kd.R_nil _ _ _ _ _ | exact Kd.N_nil _ _ _ _ _ | exact Kd.V_nil _ _ _ _ _ | exact Kd.Q_nil _ _ _ _ _ | exact Kd.S_nil _ _ _ _ _⟩, ⟨by first | exact Kd.R_nil _ _ _ _ _ | exact Kd.N_nil _ _ _ _ _ | exact Kd.V_nil _ _ _ _ _ | exact Kd.Q_nil _ _ _ _ _ | exact Kd.S_nil _ _ _ _ _⟩, ⟨by repeat (first | (with_reducible first | exact HB.out | apply below_alloc | apply pw_below_drewN | apply below_drew1) | exact HB.out)⟩⟩
    case round =>
     clear H'
     try clear c1
     try clear c2
     try clear p2
     try clear c3
     try clear c4
     try clear c5
     try clear p6
     try clear c7
     try clear c7b0
     try clear c8
     try clear c11
     try clear c13
     try clear c14
     try clear c15
     try clear c17
     try clear c21
     try clear c21b0
     try clear c21b1
     try clear c21b2
     try clear c23
     try clear c23b0
     try clear c23b1
     try clear c23b2
     try clear c25
     try clear c25b0
     try clear c25b1
     try clear c25b2
     try clear c26
     try clear c26b0
     try clear c26b1
     try clear c26b2
     try clear c28
     try clear c28b0
     try clear c28b1
     try clear c28b2
     try clear c30
     try clear c30b0
     try clear c30b1
     try clear c30b2
     try clear c31
     try clear c32
     try clear c32b0
     try clear c32b1
     try clear c32b2
     try clear c33
     try clear c33b0
     try clear c33b1
     try clear c33b2
     try clear c43
     try clear c43b0
     try clear c43b1
     obtain ⟨x8_1, x9_1, x10_1, x11_1, x12_1, rfl, HA, HK1, HO_8, HO_9, HO_10, HO_11, HB⟩ := hrel
     cases gk with
     | zero => exact absurd HA.out (by simp [colophonref11_Build.l1])
     | succ k1 =>
      have H := HA.out
      clear HA
      simp only [colophonref11_Build.l1] at H
      by_cases c46 : x12_1 < (l0.length : Int)
      ·rw [if_pos c46] at H
       have c46b0 : decide (x12_1 < (l0.length : Int)) = true := decide_eq_true c46
       clear c46
       by_cases c47 : 0 ≤ x12_1
       ·rw [if_pos c47] at H
        have c47b0 : decide (0 ≤ x12_1) = true := decide_eq_true c47
        clear c47
        by_cases c48 : ((rd_T47 l0 x12_1).f1) > 65534
        ·rw [if_pos c48] at H
         have c48b0 : decide (65534 < ((rd_T47 l0 x12_1).f1)) = true := decide_eq_true c48
         clear c48
         simp only [Option.some.injEq, Prod.mk.injEq] at H
         obtain ⟨rfl, rfl⟩ := H
         have p357 : 0 ≤ (x12_1 : Int) := of_decide_eq_true (by first | (with_reducible assumption) | assumption)
         have q357 : x12_1 < (l0.length : Int) := of_decide_eq_true (by first | (with_reducible assumption) | assumption)
         obtain ⟨ad357, e357, hx357_0, hx357_1, hx357_2⟩ := at_T47 HR0.out x12_1 p357 q357
         cases e357
         replace hx357_0 := (HB.out.cell (World.block_lt_of_cell? w _ hx357_0)).trans hx357_0
         replace hx357_1 := (HB.out.cell (World.block_lt_of_cell? w _ hx357_1)).trans hx357_1
         replace hx357_2 := (HB.out.cell (World.block_lt_of_cell? w _ hx357_2)).trans hx357_2
         replace p357 := eq_true p357
         replace q357 := eq_true q357
         go_wp2
         go_ret2
         exact ⟨by first | rfl | (simp [errW_none, errW_some] <;> rfl) | (simp [*, errW_none, errW_some] <;> rfl) | (((first | rw [pw_wdiv _ _ (by omega) (by omega)] | rw [pw_wdiv' _ _ (by omega) (by omega)] | rw [Go.IntWalk.wrap64_in _ (by omega)]); repeat (first | rw [pw_wdiv _ _ (by omega) (by omega)] | rw [pw_wdiv' _ _ (by omega) (by omega)] | rw [Go.IntWalk.wrap64_in _ (by omega)])); rfl), by repeat (first | (with_reducible first | exact HB.out | apply below_alloc | apply pw_below_drewN | apply below_drew1) | exact HB.out)⟩
        ·rw [if_neg c48] at H
         have c48b0 : decide (65534 < ((rd_T47 l0 x12_1).f1)) = false := decide_eq_false c48
         clear c48
         replace H := Option.bind_eq_some_iff.mp H
         obtain ⟨t359, A490, H⟩ := H
         (try dsimp only at H)
         have A49 := Aside0.mk A490
         clear A490
         by_cases c50 : x8_1.length + t359.size < 140737488355328
         ·rw [if_pos c50] at H
          have LMc50 := Aside0.mk c50
          clear c50
          obtain ⟨y360, hy360⟩ : ∃ y_ : List Int, y_ = (x8_1 ++ bytesOf t359) := ⟨_, rfl⟩
          replace H : ((colophonref11_two.f ((rd_T47 l0 x12_1).f0)).bind fun t364 => (if x9_1.length + t364.size < 140737488355328 then ((colophonref11_two.f (wrap64 (((rd_T47 l0 x12_1).f2) - ((rd_T47 l0 x12_1).f0)))).bind fun t370 => (if x10_1.length + t370.size < 140737488355328 then ((some (([0, 0] : List Int) : List Int)).bind fun y374 => (if x11_1.length + y374.length < 140737488355328 then (colophonref11_Build.l1 k1 l0 y360 (x9_1 ++ bytesOf t364) (x10_1 ++ bytesOf t370) (x11_1 ++ y374) (wrap64 (x12_1 + 1))) else (none))) else (none))) else (none))) = some (r1, r2) := by first | (rw [hy360]; with_reducible exact H) | (have H2_ := (Option.bind_some _ _).symm.trans H; rw [hy360]; with_reducible exact H2_) | (have H2_ := (Option.bind_some _ _).symm.trans H; with_reducible exact H2_) | with_reducible exact H | (rw [hy360]; exact H) | exact H
          have Ny360 := Aside0.mk hy360
          clear hy360
          replace H := Option.bind_eq_some_iff.mp H
          obtain ⟨t364, A510, H⟩ := H
          (try dsimp only at H)
          have A51 := Aside0.mk A510
          clear A510
          by_cases c52 : x9_1.length + t364.size < 140737488355328
          ·rw [if_pos c52] at H
           have LMc52 := Aside0.mk c52
           clear c52
           obtain ⟨y365, hy365⟩ : ∃ y_ : List Int, y_ = (x9_1 ++ bytesOf t364) := ⟨_, rfl⟩
           replace H : ((colophonref11_two.f (wrap64 (((rd_T47 l0 x12_1).f2) - ((rd_T47 l0 x12_1).f0)))).bind fun t370 => (if x10_1.length + t370.size < 140737488355328 then ((some (([0, 0] : List Int) : List Int)).bind fun y374 => (if x11_1.length + y374.length < 140737488355328 then (colophonref11_Build.l1 k1 l0 y360 y365 (x10_1 ++ bytesOf t370) (x11_1 ++ y374) (wrap64 (x12_1 + 1))) else (none))) else (none))) = some (r1, r2) := by first | (rw [hy365]; with_reducible exact H) | (have H2_ := (Option.bind_some _ _).symm.trans H; rw [hy365]; with_reducible exact H2_) | (have H2_ := (Option.bind_some _ _).symm.trans H; with_reducible exact H2_) | with_reducible exact H | (rw [hy365]; exact H) | exact H
           have Ny365 := Aside0.mk hy365
           clear hy365
           replace H := Option.bind_eq_some_iff.mp H
           obtain ⟨t370, A530, H⟩ := H
           (try dsimp only at H)
           have A53 := Aside0.mk A530
           clear A530
           by_cases c54 : x10_1.length + t370.size < 140737488355328
           ·rw [if_pos c54] at H
            have LMc54 := Aside0.mk c54
            clear c54
            obtain ⟨y371, hy371⟩ : ∃ y_ : List Int, y_ = (x10_1 ++ bytesOf t370) := ⟨_, rfl⟩
            replace H : ((some (([0, 0] : List Int) : List Int)).bind fun y374 => (if x11_1.length + y374.length < 140737488355328 then (colophonref11_Build.l1 k1 l0 y360 y365 y371 (x11_1 ++ y374) (wrap64 (x12_1 + 1))) else (none))) = some (r1, r2) := by first | (rw [hy371]; with_reducible exact H) | (have H2_ := (Option.bind_some _ _).symm.trans H; rw [hy371]; with_reducible exact H2_) | (have H2_ := (Option.bind_some _ _).symm.trans H; with_reducible exact H2_) | with_reducible exact H | (rw [hy371]; exact H) | exact H
            have Ny371 := Aside0.mk hy371
            clear hy371
            obtain ⟨y374, hy374⟩ : ∃ y_ : List Int, y_ = (([0, 0] : List Int)) := ⟨_, rfl⟩
            replace H : (if x11_1.length + y374.length < 140737488355328 then (colophonref11_Build.l1 k1 l0 y360 y365 y371 (x11_1 ++ y374) (wrap64 (x12_1 + 1))) else (none)) = some (r1, r2) := by first | (rw [hy374]; with_reducible exact H) | (have H2_ := (Option.bind_some _ _).symm.trans H; rw [hy374]; with_reducible exact H2_) | (have H2_ := (Option.bind_some _ _).symm.trans H; with_reducible exact H2_) | with_reducible exact H | (rw [hy374]; exact H) | exact H
            have Ny374 := Aside0.mk hy374
            clear hy374
            by_cases c55 : x11_1.length + y374.length < 140737488355328
            ·rw [if_pos c55] at H
             have LMc55 := Aside0.mk c55
             clear c55
             obtain ⟨y377, hy377⟩ : ∃ y_ : List Int, y_ = (x11_1 ++ y374) := ⟨_, rfl⟩
             replace H : (colophonref11_Build.l1 k1 l0 y360 y365 y371 y377 (wrap64 (x12_1 + 1))) = some (r1, r2) := by first | (rw [hy377]; with_reducible exact H) | (have H2_ := (Option.bind_some _ _).symm.trans H; rw [hy377]; with_reducible exact H2_) | (have H2_ := (Option.bind_some _ _).symm.trans H; with_reducible exact H2_) | with_reducible exact H | (rw [hy377]; exact H) | exact H
             have Ny377 := Aside0.mk hy377
             clear hy377
             have H' := Aside0.mk H
             clear H
             have p357 : 0 ≤ (x12_1 : Int) := of_decide_eq_true (by first | (with_reducible assumption) | assumption)
             have q357 : x12_1 < (l0.length : Int) := of_decide_eq_true (by first | (with_reducible assumption) | assumption)
             obtain ⟨ad357, e357, hx357_0, hx357_1, hx357_2⟩ := at_T47 HR0.out x12_1 p357 q357
             cases e357
             replace hx357_0 := (HB.out.cell (World.block_lt_of_cell? w _ hx357_0)).trans hx357_0
             replace hx357_1 := (HB.out.cell (World.block_lt_of_cell? w _ hx357_1)).trans hx357_1
             replace hx357_2 := (HB.out.cell (World.block_lt_of_cell? w _ hx357_2)).trans hx357_2
             replace p357 := eq_true p357
             replace q357 := eq_true q357
             have p358 : 0 ≤ (x12_1 : Int) := of_decide_eq_true (by first | (with_reducible assumption) | assumption)
             have q358 : x12_1 < (l0.length : Int) := of_decide_eq_true (by first | (with_reducible assumption) | assumption)
             obtain ⟨ad358, e358, hx358_0, hx358_1, hx358_2⟩ := at_T47 HR0.out x12_1 p358 q358
             obtain rfl : ad357 = ad358 := (by injection e358)
             replace hx358_0 := (HB.out.cell (World.block_lt_of_cell? w _ hx358_0)).trans hx358_0
             replace hx358_1 := (HB.out.cell (World.block_lt_of_cell? w _ hx358_1)).trans hx358_1
             replace hx358_2 := (HB.out.cell (World.block_lt_of_cell? w _ hx358_2)).trans hx358_2
             replace p358 := eq_true p358
             replace q358 := eq_true q358
             try go_wp2_with (first | ((with_reducible refine gate_callee (f := 31) rfl ?_); refine goesL_ (some 89) rfl rfl Try.func31 (by kernel_rfl) rfl #[.int .i64 ((rd_T47 l0 x12_1).f1)] rfl (by (try simp only [List.map_toArray, List.map_cons, List.map_nil]); first | done | rfl) ?_; (with_reducible refine (colophonref11_two.calls ((rd_T47 l0 x12_1).f1) t359 _ A49.out).mono ?_); rintro e w56 ⟨rfl, hb⟩; refine ⟨_, rfl, ?_⟩; have n0_ := Aside0.mk (Kd.R_below (by (with_reducible repeat (first | apply Kd.R_alloc | apply Kd.R_drewN | apply Kd.R_drew)); exact HO_8.out) hb); have n1_ := Aside0.mk (Kd.R_below (by (with_reducible repeat (first | apply Kd.R_alloc | apply Kd.R_drewN | apply Kd.R_drew)); exact HO_9.out) hb); have n2_ := Aside0.mk (Kd.R_below (by (with_reducible repeat (first | apply Kd.R_alloc | apply Kd.R_drewN | apply Kd.R_drew)); exact HO_10.out) hb); have n3_ := Aside0.mk (Kd.R_below (by (with_reducible repeat (first | apply Kd.R_alloc | apply Kd.R_drewN | apply Kd.R_drew)); exact HO_11.out) hb); have n4_ := Aside0.mk (below_step (by repeat (first | (with_reducible first | exact HB.out | apply below_alloc | apply pw_below_drewN | apply below_drew1) | exact HB.out)) hb); clear HO_8; clear HO_9; clear HO_10; clear HO_11; clear HB; have HO_8 := n0_; have HO_9 := n1_; have HO_10 := n2_; have HO_11 := n3_; have HB := n4_; clear n0_ n1_ n2_ n3_ n4_; (try clear hb)) | (at_builtin; refine pw_R_append_str (w0 := w) w.heap.size rfl (.tmp 83) _ 43 9 5 rfl Try.underlying43 Try.underlying9 info5 u8 x8_1 t359 (fun k_ => some k_ ≠ (u9 : Value).ownBlock ∧ some k_ ≠ (u10 : Value).ownBlock ∧ some k_ ≠ (u11 : Value).ownBlock) rfl rfl ?aF ?aO ?aB ?aS ?aL ?_; (case aB => exact (by repeat (first | (with_reducible first | exact HB.out | apply below_alloc | apply pw_below_drewN | apply below_drew1) | exact HB.out))); (case aF => exact (fun k_ hk => ⟨Kd.fresh' (Kd.R_lt (by (with_reducible repeat (first | apply Kd.R_alloc | apply Kd.R_drewN | apply Kd.R_drew)); exact HO_9.out)) k_ hk, Kd.fresh' (Kd.R_lt (by (with_reducible repeat (first | apply Kd.R_alloc | apply Kd.R_drewN | apply Kd.R_drew)); exact HO_10.out)) k_ hk, Kd.fresh' (Kd.R_lt (by (with_reducible repeat (first | apply Kd.R_alloc | apply Kd.R_drewN | apply Kd.R_drew)); exact HO_11.out)) k_ hk⟩)); (case aO => exact (by (with_reducible repeat (first | apply Kd.R_alloc | apply Kd.R_drewN | apply Kd.R_drew)); exact HO_8.out)); (case aS => exact (below_size (by repeat (first | (with_reducible first | exact HB.out | apply below_alloc | apply pw_below_drewN | apply below_drew1) | exact HB.out)))); (case aL => have := LMc50.out; omega); intro v361 w57 ho hb hg hat; rw [← Ny360.out] at ho; have n0_ := Aside0.mk (Kd.R_after (ok := (fun k_ => some k_ ≠ (u10 : Value).ownBlock ∧ some k_ ≠ (u11 : Value).ownBlock)) (by (with_reducible repeat (first | apply Kd.R_alloc | apply Kd.R_drewN | apply Kd.R_drew)); exact Kd.R_mono HO_9.out (fun _ hk => ⟨⟨hk.2.1, hk.2.2⟩, hk.1⟩)) hg hat); have n1_ := Aside0.mk (Kd.R_after (ok := (fun k_ => some k_ ≠ (u9 : Value).ownBlock ∧ some k_ ≠ (u11 : Value).ownBlock)) (by (with_reducible repeat (first | apply Kd.R_alloc | apply Kd.R_drewN | apply Kd.R_drew)); exact Kd.R_mono HO_10.out (fun _ hk => ⟨⟨hk.2.1, hk.2.2⟩, hk.1⟩)) hg hat); have n2_ := Aside0.mk (Kd.R_after (ok := (fun k_ => some k_ ≠ (u9 : Value).ownBlock ∧ some k_ ≠ (u10 : Value).ownBlock)) (by (with_reducible repeat (first | apply Kd.R_alloc | apply Kd.R_drewN | apply Kd.R_drew)); exact Kd.R_mono HO_11.out (fun _ hk => ⟨⟨hk.2.1, hk.2.2⟩, hk.1⟩)) hg hat); have n3_ := Aside0.mk (hb); have n4_ := Aside0.mk (ho); clear HO_9; clear HO_10; clear HO_11; clear HB; clear HO_8; have HO_9 := n0_; have HO_10 := n1_; have HO_11 := n2_; have HB := n3_; have HO362 := n4_; clear n0_ n1_ n2_ n3_ n4_; clear ho hb hg hat; have p363 : 0 ≤ (x12_1 : Int) := of_decide_eq_true (by first | (with_reducible assumption) | assumption); have q363 : x12_1 < (l0.length : Int) := of_decide_eq_true (by first | (with_reducible assumption) | assumption); obtain ⟨ad363, e363, hx363_0, hx363_1, hx363_2⟩ := at_T47 HR0.out x12_1 p363 q363; obtain rfl : ad357 = ad363 := (by injection e363); replace hx363_0 := (HB.out.cell (World.block_lt_of_cell? w _ hx363_0)).trans hx363_0; replace hx363_1 := (HB.out.cell (World.block_lt_of_cell? w _ hx363_1)).trans hx363_1; replace hx363_2 := (HB.out.cell (World.block_lt_of_cell? w _ hx363_2)).trans hx363_2; replace p363 := eq_true p363; replace q363 := eq_true q363) | ((with_reducible refine gate_callee (f := 31) rfl ?_); refine goesL_ (some 97) rfl rfl Try.func31 (by kernel_rfl) rfl #[.int .i64 ((rd_T47 l0 x12_1).f0)] rfl (by (try simp only [List.map_toArray, List.map_cons, List.map_nil]); first | done | rfl) ?_; (with_reducible refine (colophonref11_two.calls ((rd_T47 l0 x12_1).f0) t364 _ A51.out).mono ?_); rintro e w58 ⟨rfl, hb⟩; refine ⟨_, rfl, ?_⟩; have n0_ := Aside0.mk (Kd.R_below (by (with_reducible repeat (first | apply Kd.R_alloc | apply Kd.R_drewN | apply Kd.R_drew)); exact HO_9.out) hb); have n1_ := Aside0.mk (Kd.R_below (by (with_reducible repeat (first | apply Kd.R_alloc | apply Kd.R_drewN | apply Kd.R_drew)); exact HO_10.out) hb); have n2_ := Aside0.mk (Kd.R_below (by (with_reducible repeat (first | apply Kd.R_alloc | apply Kd.R_drewN | apply Kd.R_drew)); exact HO_11.out) hb); have n3_ := Aside0.mk (Kd.R_below (by (with_reducible repeat (first | apply Kd.R_alloc | apply Kd.R_drewN | apply Kd.R_drew)); exact HO362.out) hb); have n4_ := Aside0.mk (below_step (by repeat (first | (with_reducible first | exact HB.out | apply below_alloc | apply pw_below_drewN | apply below_drew1) | exact HB.out)) hb); clear HO_9; clear HO_10; clear HO_11; clear HO362; clear HB; have HO_9 := n0_; have HO_10 := n1_; have HO_11 := n2_; have HO362 := n3_; have HB := n4_; clear n0_ n1_ n2_ n3_ n4_; (try clear hb)) | (at_builtin; refine pw_R_append_str (w0 := w) w.heap.size rfl (.tmp 91) _ 43 9 5 rfl Try.underlying43 Try.underlying9 info5 u9 x9_1 t364 (fun k_ => some k_ ≠ (u10 : Value).ownBlock ∧ some k_ ≠ (u11 : Value).ownBlock ∧ some k_ ≠ (v361 : Value).ownBlock) rfl rfl ?aF ?aO ?aB ?aS ?aL ?_; (case aB => exact (by repeat (first | (with_reducible first | exact HB.out | apply below_alloc | apply pw_below_drewN | apply below_drew1) | exact HB.out))); (case aF => exact (fun k_ hk => ⟨Kd.fresh' (Kd.R_lt (by (with_reducible repeat (first | apply Kd.R_alloc | apply Kd.R_drewN | apply Kd.R_drew)); exact HO_10.out)) k_ hk, Kd.fresh' (Kd.R_lt (by (with_reducible repeat (first | apply Kd.R_alloc | apply Kd.R_drewN | apply Kd.R_drew)); exact HO_11.out)) k_ hk, Kd.fresh' (Kd.R_lt (by (with_reducible repeat (first | apply Kd.R_alloc | apply Kd.R_drewN | apply Kd.R_drew)); exact HO362.out)) k_ hk⟩)); (case aO => exact (by (with_reducible repeat (first | apply Kd.R_alloc | apply Kd.R_drewN | apply Kd.R_drew)); exact Kd.R_mono HO_9.out (fun _ hk => ⟨hk.1.1, ⟨hk.1.2, hk.2⟩⟩))); (case aS => exact (below_size (by repeat (first | (with_reducible first | exact HB.out | apply below_alloc | apply pw_below_drewN | apply below_drew1) | exact HB.out)))); (case aL => have := LMc52.out; omega); intro v366 w59 ho hb hg hat; rw [← Ny365.out] at ho; have n0_ := Aside0.mk (Kd.R_after (ok := (fun k_ => some k_ ≠ (u11 : Value).ownBlock ∧ some k_ ≠ (v361 : Value).ownBlock)) (by (with_reducible repeat (first | apply Kd.R_alloc | apply Kd.R_drewN | apply Kd.R_drew)); exact Kd.R_mono HO_10.out (fun _ hk => ⟨⟨hk.1.2, hk.2⟩, hk.1.1⟩)) hg hat); have n1_ := Aside0.mk (Kd.R_after (ok := (fun k_ => some k_ ≠ (u10 : Value).ownBlock ∧ some k_ ≠ (v361 : Value).ownBlock)) (by (with_reducible repeat (first | apply Kd.R_alloc | apply Kd.R_drewN | apply Kd.R_drew)); exact Kd.R_mono HO_11.out (fun _ hk => ⟨⟨hk.1.2, hk.2⟩, hk.1.1⟩)) hg hat); have n2_ := Aside0.mk (Kd.R_after (ok := (fun k_ => some k_ ≠ (u10 : Value).ownBlock ∧ some k_ ≠ (u11 : Value).ownBlock)) (by (with_reducible repeat (first | apply Kd.R_alloc | apply Kd.R_drewN | apply Kd.R_drew)); exact Kd.R_mono HO362.out (fun _ hk => ⟨⟨hk.2.1, hk.2.2⟩, hk.1⟩)) hg hat); have n3_ := Aside0.mk (hb); have n4_ := Aside0.mk (ho); clear HO_10; clear HO_11; clear HO362; clear HB; clear HO_9; have HO_10 := n0_; have HO_11 := n1_; have HO362 := n2_; have HB := n3_; have HO367 := n4_; clear n0_ n1_ n2_ n3_ n4_; clear ho hb hg hat))
             have n0_ := Aside0.mk (Kd.R_drew HO_10.out)
             have n1_ := Aside0.mk (Kd.R_drew HO_11.out)
             have n2_ := Aside0.mk (Kd.R_drew HO362.out)
             have n3_ := Aside0.mk (Kd.R_drew HO367.out)
             have n4_ := Aside0.mk (below_drew1 HB.out)
             clear HO_10
             clear HO_11
             clear HO362
             clear HO367
             clear HB
             have HO_10 := n0_
             have HO_11 := n1_
             have HO362 := n2_
             have HO367 := n3_
             have HB := n4_
             clear n0_ n1_ n2_ n3_ n4_
             have p368 : 0 ≤ (x12_1 : Int) := of_decide_eq_true (by first | (with_reducible assumption) | assumption)
             have q368 : x12_1 < (l0.length : Int) := of_decide_eq_true (by first | (with_reducible assumption) | assumption)
             obtain ⟨ad368, e368, hx368_0, hx368_1, hx368_2⟩ := at_T47 HR0.out x12_1 p368 q368
             have hw368_2 := hx368_2
             have hw368_1 := hx368_1
             have hw368_0 := hx368_0
             obtain rfl : ad357 = ad368 := (by injection e368)
             replace hx368_0 := (HB.out.cell (World.block_lt_of_cell? w _ hx368_0)).trans hx368_0
             replace hx368_1 := (HB.out.cell (World.block_lt_of_cell? w _ hx368_1)).trans hx368_1
             replace hx368_2 := (HB.out.cell (World.block_lt_of_cell? w _ hx368_2)).trans hx368_2
             replace p368 := eq_true p368
             replace q368 := eq_true q368
             have p369 : 0 ≤ (x12_1 : Int) := of_decide_eq_true (by first | (with_reducible assumption) | assumption)
             have q369 : x12_1 < (l0.length : Int) := of_decide_eq_true (by first | (with_reducible assumption) | assumption)
             obtain ⟨ad369, e369, hx369_0, hx369_1, hx369_2⟩ := at_T47 HR0.out x12_1 p369 q369
             have hw369_2 := hx369_2
             have hw369_1 := hx369_1
             have hw369_0 := hx369_0
             obtain rfl : ad357 = ad369 := (by injection e369)
             replace hx369_0 := (HB.out.cell (World.block_lt_of_cell? w _ hx369_0)).trans hx369_0
             replace hx369_1 := (HB.out.cell (World.block_lt_of_cell? w _ hx369_1)).trans hx369_1
             replace hx369_2 := (HB.out.cell (World.block_lt_of_cell? w _ hx369_2)).trans hx369_2
             replace p369 := eq_true p369
             replace q369 := eq_true q369
             refine start_ (n := 15) (S := fun w' => w'.cell? (ad357.add ((x12_1).toNat * 3)) = some (.int .i64 ((rd_T47 l0 x12_1).f0)) ∧ w'.cell? ⟨(ad357.add ((x12_1).toNat * 3)).block, (ad357.add ((x12_1).toNat * 3)).off + 1, none⟩ = some (.int .i64 ((rd_T47 l0 x12_1).f1)) ∧ w'.cell? ⟨(ad357.add ((x12_1).toNat * 3)).block, (ad357.add ((x12_1).toNat * 3)).off + 2, none⟩ = some (.int .i64 ((rd_T47 l0 x12_1).f2)) ∧ w'.cell? (ad357.add ((x12_1).toNat * 3)) = some (.int .i64 ((rd_T47 l0 x12_1).f0)) ∧ w'.cell? ⟨(ad357.add ((x12_1).toNat * 3)).block, (ad357.add ((x12_1).toNat * 3)).off + 1, none⟩ = some (.int .i64 ((rd_T47 l0 x12_1).f1)) ∧ w'.cell? ⟨(ad357.add ((x12_1).toNat * 3)).block, (ad357.add ((x12_1).toNat * 3)).off + 2, none⟩ = some (.int .i64 ((rd_T47 l0 x12_1).f2))) (ds := []) #[false, false, false, false, false, false, false, false, false, false, false, false, false, false, false] (by kernel_rfl) rfl rfl ⟨((HB.out.cell (World.block_lt_of_cell? w _ hw368_0)).trans hw368_0), ((HB.out.cell (World.block_lt_of_cell? w _ hw368_1)).trans hw368_1), ((HB.out.cell (World.block_lt_of_cell? w _ hw368_2)).trans hw368_2), ((HB.out.cell (World.block_lt_of_cell? w _ hw369_0)).trans hw369_0), ((HB.out.cell (World.block_lt_of_cell? w _ hw369_1)).trans hw369_1), ((HB.out.cell (World.block_lt_of_cell? w _ hw369_2)).trans hw369_2)⟩ (fun hHeld => ?_); refine with_tabW colophonref11_Build.tab20 colophonref11_Build.bits20 (fun HT_ HW_ => ?_)
             generalize w59.drew = w60 at HO_10 HO_11 HO362 HO367 HB hx368_0 hx368_1 hx368_2 hx369_0 hx369_1 hx369_2 hHeld ⊢
             refine pure_ (i := 0) (N := some 99) (v := ?_) (a' := ?_) #[true, false, false, false, false, false, false, false, false, false, false, false, false, false, false] rfl rfl (any_of HT_.out (by kernel_rfl)) (fun _ _ _ h => h) (Or.inl ⟨by rfl, ?_⟩) ?_ ?_
             rotate_left
             ·intro w'
              go_simp
              with_reducible rfl
             rotate_left
             ·simp only [Act.put, List.setIfInBounds_toArray, List.set_cons_zero, List.set_cons_succ, i64_w, i32_w]
              rfl
             refine pure_ (i := 1) (N := some 100) (v := ?_) (a' := ?_) #[true, true, false, false, false, false, false, false, false, false, false, false, false, false, false] rfl rfl (any_of HT_.out (by kernel_rfl)) (fun _ _ _ h => h) (Or.inl ⟨by rfl, ?_⟩) ?_ ?_
             rotate_left
             ·intro w'
              go_simp
              with_reducible rfl
             rotate_left
             ·simp only [Act.put, List.setIfInBounds_toArray, List.set_cons_zero, List.set_cons_succ, i64_w, i32_w]
              rfl
             refine pure_ (i := 2) (N := some 101) (v := ?_) (a' := ?_) #[true, true, true, false, false, false, false, false, false, false, false, false, false, false, false] rfl rfl (any_of HT_.out (by kernel_rfl)) (fun _ _ _ h => h) (Or.inl ⟨by rfl, ?_⟩) ?_ ?_
             rotate_left
             ·intro w'
              go_simp
              with_reducible rfl
             rotate_left
             ·simp only [Act.put, List.setIfInBounds_toArray, List.set_cons_zero, List.set_cons_succ, i64_w, i32_w]
              rfl
             refine pure_ (i := 3) (N := some 102) (v := ?_) (a' := ?_) #[true, true, true, true, false, false, false, false, false, false, false, false, false, false, false] rfl rfl (any_of HT_.out (by kernel_rfl)) (fun _ _ _ h => h) (Or.inl ⟨by rfl, ?_⟩) ?_ ?_
             rotate_left
             ·intro w'
              go_simp
              with_reducible rfl
             rotate_left
             ·simp only [Act.put, List.setIfInBounds_toArray, List.set_cons_zero, List.set_cons_succ, i64_w, i32_w]
              rfl
             refine pure_ (i := 4) (N := some 103) (v := ?_) (a' := ?_) #[true, true, true, true, true, false, false, false, false, false, false, false, false, false, false] rfl rfl (any_of HT_.out (by kernel_rfl)) (fun _ _ _ h => h) (Or.inl ⟨by rfl, ?_⟩) ?_ ?_
             rotate_left
             ·intro w'
              go_simp
              with_reducible rfl
             rotate_left
             ·simp only [Act.put, List.setIfInBounds_toArray, List.set_cons_zero, List.set_cons_succ, i64_w, i32_w]
              rfl
             refine pure_ (i := 6) (N := some 105) (v := ?_) (a' := ?_) #[true, true, true, true, true, false, true, false, false, false, false, false, false, false, false] rfl rfl (any_of HT_.out (by kernel_rfl)) (fun _ _ _ h => h) (Or.inl ⟨by rfl, ?_⟩) ?_ ?_
             rotate_left
             ·intro w'
              go_simp
              with_reducible rfl
             rotate_left
             ·simp only [Act.put, List.setIfInBounds_toArray, List.set_cons_zero, List.set_cons_succ, i64_w, i32_w]
              rfl
             refine pure_ (i := 7) (N := some 106) (v := ?_) (a' := ?_) #[true, true, true, true, true, false, true, true, false, false, false, false, false, false, false] rfl rfl (any_of HT_.out (by kernel_rfl)) (fun _ _ _ h => h) (Or.inl ⟨by rfl, ?_⟩) ?_ ?_
             rotate_left
             ·intro w'
              go_simp
              with_reducible rfl
             rotate_left
             ·simp only [Act.put, List.setIfInBounds_toArray, List.set_cons_zero, List.set_cons_succ, i64_w, i32_w]
              rfl
             refine pure_ (i := 8) (N := some 107) (v := ?_) (a' := ?_) #[true, true, true, true, true, false, true, true, true, false, false, false, false, false, false] rfl rfl (any_of HT_.out (by kernel_rfl)) (fun _ _ _ h => h) (Or.inl ⟨by rfl, ?_⟩) ?_ ?_
             rotate_left
             ·intro w'
              go_simp
              with_reducible rfl
             rotate_left
             ·simp only [Act.put, List.setIfInBounds_toArray, List.set_cons_zero, List.set_cons_succ, i64_w, i32_w]
              rfl
             refine pure_ (i := 9) (N := some 108) (v := ?_) (a' := ?_) #[true, true, true, true, true, false, true, true, true, true, false, false, false, false, false] rfl rfl (any_of HT_.out (by kernel_rfl)) (fun _ _ _ h => h) (Or.inl ⟨by rfl, ?_⟩) ?_ ?_
             rotate_left
             ·intro w'
              go_simp
              with_reducible rfl
             rotate_left
             ·simp only [Act.put, List.setIfInBounds_toArray, List.set_cons_zero, List.set_cons_succ, i64_w, i32_w]
              rfl
             refine take_ (i := 5) (N := some 104) (v := ?_) (a' := ?_) #[true, true, true, true, true, true, true, true, true, true, false, false, false, false, false] rfl rfl (take_ofW HT_.out HW_.out (by kernel_rfl)) (fun _ _ _ h => h) (Or.inl ⟨by rfl, ?_⟩) hHeld ?_ ?_
             rotate_left
             ·rintro w' ⟨s0, s1, s2, s3, s4, s5⟩
              go_simp
              with_reducible rfl
             rotate_left
             ·simp only [Act.put, List.setIfInBounds_toArray, List.set_cons_zero, List.set_cons_succ, i64_w, i32_w]
              rfl
             refine take_ (i := 10) (N := some 109) (v := ?_) (a' := ?_) #[true, true, true, true, true, true, true, true, true, true, true, false, false, false, false] rfl rfl (take_ofW HT_.out HW_.out (by kernel_rfl)) (fun _ _ _ h => h) (Or.inl ⟨by rfl, ?_⟩) hHeld ?_ ?_
             rotate_left
             ·rintro w' ⟨s0, s1, s2, s3, s4, s5⟩
              go_simp
              with_reducible rfl
             rotate_left
             ·simp only [Act.put, List.setIfInBounds_toArray, List.set_cons_zero, List.set_cons_succ, i64_w, i32_w]
              rfl
             refine pure_ (i := 11) (N := some 110) (v := ?_) (a' := ?_) #[true, true, true, true, true, true, true, true, true, true, true, true, false, false, false] rfl rfl (any_of HT_.out (by kernel_rfl)) (fun _ _ _ h => h) (Or.inl ⟨by rfl, ?_⟩) ?_ ?_
             rotate_left
             ·intro w'
              go_simp
              with_reducible rfl
             rotate_left
             ·simp only [Act.put, List.setIfInBounds_toArray, List.set_cons_zero, List.set_cons_succ, i64_w, i32_w]
              rfl
             refine one_ (i := 12) (N := some 111) #[true, true, true, true, true, true, true, true, true, true, true, true, true, false, false] rfl rfl (one_of HT_.out (by kernel_rfl)) (by decide) (fun K hK => ?_)
             refine goes_ Try.func31 (by kernel_rfl) rfl #[.int .i64 (wrap64 (((rd_T47 l0 x12_1).f2) - ((rd_T47 l0 x12_1).f0)))] (by rfl) rfl rfl (by (try simp only [List.map_toArray, List.map_cons, List.map_nil]); first | done | rfl | (simp only [List.length_drop, List.length_take]; rfl)) ?_
             with_reducible refine (colophonref11_two.calls (wrap64 (((rd_T47 l0 x12_1).f2) - ((rd_T47 l0 x12_1).f0))) t370 _ A53.out).mono ?_
             rintro e w61 ⟨rfl, hb⟩
             refine ⟨_, rfl, ?_⟩
             have n0_ := Aside0.mk (Kd.R_below (by (with_reducible repeat (first | apply Kd.R_alloc | apply Kd.R_drewN | apply Kd.R_drew)); exact HO_10.out) hb)
             have n1_ := Aside0.mk (Kd.R_below (by (with_reducible repeat (first | apply Kd.R_alloc | apply Kd.R_drewN | apply Kd.R_drew)); exact HO_11.out) hb)
             have n2_ := Aside0.mk (Kd.R_below (by (with_reducible repeat (first | apply Kd.R_alloc | apply Kd.R_drewN | apply Kd.R_drew)); exact HO362.out) hb)
             have n3_ := Aside0.mk (Kd.R_below (by (with_reducible repeat (first | apply Kd.R_alloc | apply Kd.R_drewN | apply Kd.R_drew)); exact HO367.out) hb)
             have n4_ := Aside0.mk (below_step (by repeat (first | (with_reducible first | exact HB.out | apply below_alloc | apply pw_below_drewN | apply below_drew1) | exact HB.out)) hb)
             clear HO_10
             clear HO_11
             clear HO362
             clear HO367
             clear HB
             have HO_10 := n0_
             have HO_11 := n1_
             have HO362 := n2_
             have HO367 := n3_
             have HB := n4_
             clear n0_ n1_ n2_ n3_ n4_
             (try clear hb)
             (try clear hb2)
             (try clear hk)
             (try clear hi)
             refine hK.out _ _ ⟨((HB.out.cell (World.block_lt_of_cell? w _ hw368_0)).trans hw368_0), ((HB.out.cell (World.block_lt_of_cell? w _ hw368_1)).trans hw368_1), ((HB.out.cell (World.block_lt_of_cell? w _ hw368_2)).trans hw368_2), ((HB.out.cell (World.block_lt_of_cell? w _ hw369_0)).trans hw369_0), ((HB.out.cell (World.block_lt_of_cell? w _ hw369_1)).trans hw369_1), ((HB.out.cell (World.block_lt_of_cell? w _ hw369_2)).trans hw369_2)⟩ (fun hHeld => ?_)
             clear hK K
             refine norm_ (a' := ?_) ?_ ?_
             rotate_left
             ·show Act.put _ (some 111) _ = _
              simp only [Act.put, List.setIfInBounds_toArray, List.set_cons_zero, List.set_cons_succ, i64_w, i32_w]
              rfl
             refine one_ (i := 13) (N := some 112) #[true, true, true, true, true, true, true, true, true, true, true, true, true, true, false] rfl rfl (one_of HT_.out (by kernel_rfl)) (by decide) (fun K hK => ?_)
             refine pw_R_append_str_step (w0 := w) w.heap.size (by rfl) (.tmp 99) _ 43 9 5 rfl Try.underlying43 Try.underlying9 info5 u10 x10_1 t370 (fun k_ => some k_ ≠ (u11 : Value).ownBlock ∧ some k_ ≠ (v361 : Value).ownBlock ∧ some k_ ≠ (v366 : Value).ownBlock) rfl rfl ?aF ?aO ?aB ?aS ?aL ?_
             (case aB => exact (by repeat (first | (with_reducible first | exact HB.out | apply below_alloc | apply pw_below_drewN | apply below_drew1) | exact HB.out)))
             (case aF => exact (fun k_ hk => ⟨Kd.fresh' (Kd.R_lt (by (with_reducible repeat (first | apply Kd.R_alloc | apply Kd.R_drewN | apply Kd.R_drew)); exact HO_11.out)) k_ hk, Kd.fresh' (Kd.R_lt (by (with_reducible repeat (first | apply Kd.R_alloc | apply Kd.R_drewN | apply Kd.R_drew)); exact HO362.out)) k_ hk, Kd.fresh' (Kd.R_lt (by (with_reducible repeat (first | apply Kd.R_alloc | apply Kd.R_drewN | apply Kd.R_drew)); exact HO367.out)) k_ hk⟩))
             (case aO => exact (by (with_reducible repeat (first | apply Kd.R_alloc | apply Kd.R_drewN | apply Kd.R_drew)); exact Kd.R_mono HO_10.out (fun _ hk => ⟨hk.1.1, ⟨hk.1.2, hk.2⟩⟩)))
             (case aS => exact (below_size (by repeat (first | (with_reducible first | exact HB.out | apply below_alloc | apply pw_below_drewN | apply below_drew1) | exact HB.out))))
             (case aL => have := LMc54.out; omega)
             intro v372 w62 ho hb hg hat
             rw [← Ny371.out] at ho
             have n0_ := Aside0.mk (Kd.R_after (ok := (fun k_ => some k_ ≠ (v361 : Value).ownBlock ∧ some k_ ≠ (v366 : Value).ownBlock)) (by (with_reducible repeat (first | apply Kd.R_alloc | apply Kd.R_drewN | apply Kd.R_drew)); exact Kd.R_mono HO_11.out (fun _ hk => ⟨⟨hk.1.2, hk.2⟩, hk.1.1⟩)) hg hat)
             have n1_ := Aside0.mk (Kd.R_after (ok := (fun k_ => some k_ ≠ (u11 : Value).ownBlock ∧ some k_ ≠ (v366 : Value).ownBlock)) (by (with_reducible repeat (first | apply Kd.R_alloc | apply Kd.R_drewN | apply Kd.R_drew)); exact Kd.R_mono HO362.out (fun _ hk => ⟨⟨hk.1.2, hk.2⟩, hk.1.1⟩)) hg hat)
             have n2_ := Aside0.mk (Kd.R_after (ok := (fun k_ => some k_ ≠ (u11 : Value).ownBlock ∧ some k_ ≠ (v361 : Value).ownBlock)) (by (with_reducible repeat (first | apply Kd.R_alloc | apply Kd.R_drewN | apply Kd.R_drew)); exact Kd.R_mono HO367.out (fun _ hk => ⟨⟨hk.2.1, hk.2.2⟩, hk.1⟩)) hg hat)
             have n3_ := Aside0.mk (hb)
             have n4_ := Aside0.mk (ho)
             clear HO_11
             clear HO362
             clear HO367
             clear HB
             clear HO_10
             have HO_11 := n0_
             have HO362 := n1_
             have HO367 := n2_
             have HB := n3_
             have HO373 := n4_
             clear n0_ n1_ n2_ n3_ n4_
             clear ho hb hg hat
             refine hK.out _ _ ⟨((HB.out.cell (World.block_lt_of_cell? w _ hw368_0)).trans hw368_0), ((HB.out.cell (World.block_lt_of_cell? w _ hw368_1)).trans hw368_1), ((HB.out.cell (World.block_lt_of_cell? w _ hw368_2)).trans hw368_2), ((HB.out.cell (World.block_lt_of_cell? w _ hw369_0)).trans hw369_0), ((HB.out.cell (World.block_lt_of_cell? w _ hw369_1)).trans hw369_1), ((HB.out.cell (World.block_lt_of_cell? w _ hw369_2)).trans hw369_2)⟩ (fun hHeld => ?_)
             clear hK K
             refine norm_ (a' := ?_) ?_ ?_
             rotate_left
             ·show Act.put _ (some 112) _ = _
              simp only [Act.put, List.setIfInBounds_toArray, List.set_cons_zero, List.set_cons_succ, i64_w, i32_w]
              rfl
             refine pure_ (i := 14) (N := some 10) (v := ?_) (a' := ?_) #[true, true, true, true, true, true, true, true, true, true, true, true, true, true, true] rfl rfl (any_of HT_.out (by kernel_rfl)) (fun _ _ _ h => h) (Or.inl ⟨by rfl, ?_⟩) ?_ ?_
             rotate_left
             ·intro w'
              go_simp
              with_reducible rfl
             rotate_left
             ·simp only [Act.put, List.setIfInBounds_toArray, List.set_cons_zero, List.set_cons_succ, i64_w, i32_w]
              rfl
             refine done_ (done_of HT_.out (by kernel_rfl)) ?_
             try go_wp2_with (first | ((with_reducible refine gate_dst (N := 114) rfl ?_); refine Kd.R_lit (Kd.int .u8) _ 5 ?hg (N := 114) ?hd (xs := ([0, 0] : List Int)) (inner := [.int .u8 0, .int .u8 0]) (ok := fun _ => True) (okp := fun _ => True) ?hr ?hp (fun _ hk => hk) trivial (Below.refl _ _) (Nat.le_refl _) (by simp) ?_; (case hd => rfl); (case hg => rfl); (case hr => first | (go_simp; done) | (go_simp; rfl)); (case hp => exact (Reps.one (show Kd.M (Kd.int .u8) _ _ _ 0 [.int .u8 0] from rfl) (Reps.one (show Kd.M (Kd.int .u8) _ _ _ 0 [.int .u8 0] from rfl) (Reps.none _ _)))); intro v375 w63 ho64 hb hg_ hnew_; clear hg_ hnew_; (first | rw [← Ny374.out] at ho64 | (simp only [Int.reduceToNat] at ho64; rw [← Ny374.out] at ho64)); have n0_ := Aside0.mk (Kd.R_elder' (by (with_reducible repeat (first | apply Kd.R_alloc | apply Kd.R_drewN | apply Kd.R_drew)); exact HO_11.out) (Kd.R_base ho64) hb); have n1_ := Aside0.mk (Kd.R_elder' (by (with_reducible repeat (first | apply Kd.R_alloc | apply Kd.R_drewN | apply Kd.R_drew)); exact HO362.out) (Kd.R_base ho64) hb); have n2_ := Aside0.mk (Kd.R_elder' (by (with_reducible repeat (first | apply Kd.R_alloc | apply Kd.R_drewN | apply Kd.R_drew)); exact HO367.out) (Kd.R_base ho64) hb); have n3_ := Aside0.mk (Kd.R_elder' (by (with_reducible repeat (first | apply Kd.R_alloc | apply Kd.R_drewN | apply Kd.R_drew)); exact HO373.out) (Kd.R_base ho64) hb); have n4_ := Aside0.mk (Kd.R_lower (Kd.R_new' (Kd.R_new' (Kd.R_new' (Kd.R_new' ho64 (Kd.R_lt (by (with_reducible repeat (first | apply Kd.R_alloc | apply Kd.R_drewN | apply Kd.R_drew)); exact HO_11.out))) (Kd.R_lt (by (with_reducible repeat (first | apply Kd.R_alloc | apply Kd.R_drewN | apply Kd.R_drew)); exact HO362.out))) (Kd.R_lt (by (with_reducible repeat (first | apply Kd.R_alloc | apply Kd.R_drewN | apply Kd.R_drew)); exact HO367.out))) (Kd.R_lt (by (with_reducible repeat (first | apply Kd.R_alloc | apply Kd.R_drewN | apply Kd.R_drew)); exact HO373.out))) (below_size (by repeat (first | (with_reducible first | exact HB.out | apply below_alloc | apply pw_below_drewN | apply below_drew1) | exact HB.out)))); have n5_ := Aside0.mk (below_step (by repeat (first | (with_reducible first | exact HB.out | apply below_alloc | apply pw_below_drewN | apply below_drew1) | exact HB.out)) hb); clear HO_11; clear HO362; clear HO367; clear HO373; clear HB; have HO_11 := n0_; have HO362 := n1_; have HO367 := n2_; have HO373 := n3_; have HO376 := n4_; have HB := n5_; clear n0_ n1_ n2_ n3_ n4_ n5_; clear hb ho64; obtain ⟨Ao66, co66, eo66⟩ := Kd.R_slice HO376.out; subst eo66) | ((with_reducible refine gate_builtin (b := .append) (xs := #[.tmp 113, .tmp 114]) rfl ?_); at_builtin; refine Kd.R_append_rows (Kd.int .u8) (w0 := w) w.heap.size rfl (.tmp 113) (.tmp 114) 43 5 (.int .u8 0) 1 rfl Try.underlying43 info5 rfl (by decide) (by omega) u11 x11_1 y374 _ _ _ (fun k_ => some k_ ≠ (v361 : Value).ownBlock ∧ some k_ ≠ (v366 : Value).ownBlock ∧ some k_ ≠ (v372 : Value).ownBlock ∧ some k_ ≠ (.slice Ao66 y374.length co66 : Value).ownBlock) (fun _ => False) rfl rfl ?aO ?aR (fun _ _ h => h) (fun _ h => h.elim) ?aF ?aB ?aS ?aL ?_; (case aR => repeat (first | exact (Kd.R_reads' HO376.out).2.2 | (with_reducible refine Kd.C_alloc ?_ _) | (with_reducible refine Kd.C_drewN ?_ _) | (with_reducible refine Kd.C_drew ?_))); (case aB => exact (by repeat (first | (with_reducible first | exact HB.out | apply below_alloc | apply pw_below_drewN | apply below_drew1) | exact HB.out))); (case aF => exact (fun k_ hk => ⟨Kd.fresh' (Kd.R_lt (by (with_reducible repeat (first | apply Kd.R_alloc | apply Kd.R_drewN | apply Kd.R_drew)); exact HO362.out)) k_ hk, Kd.fresh' (Kd.R_lt (by (with_reducible repeat (first | apply Kd.R_alloc | apply Kd.R_drewN | apply Kd.R_drew)); exact HO367.out)) k_ hk, Kd.fresh' (Kd.R_lt (by (with_reducible repeat (first | apply Kd.R_alloc | apply Kd.R_drewN | apply Kd.R_drew)); exact HO373.out)) k_ hk, Kd.fresh' (Kd.R_lt (by (with_reducible repeat (first | apply Kd.R_alloc | apply Kd.R_drewN | apply Kd.R_drew)); exact HO376.out)) k_ hk⟩)); (case aO => exact (by (with_reducible repeat (first | apply Kd.R_alloc | apply Kd.R_drewN | apply Kd.R_drew)); exact Kd.R_mono HO_11.out (fun _ hk => ⟨hk.1.1.1, ⟨hk.1.1.2, ⟨hk.1.2, hk.2⟩⟩⟩))); (case aS => exact (below_size (by repeat (first | (with_reducible first | exact HB.out | apply below_alloc | apply pw_below_drewN | apply below_drew1) | exact HB.out)))); (case aL => have := LMc55.out; omega); intro v378 w65 ho hb hg hat; rw [← Ny377.out] at ho; have n0_ := Aside0.mk (Kd.R_after (ok := (fun k_ => some k_ ≠ (v366 : Value).ownBlock ∧ some k_ ≠ (v372 : Value).ownBlock ∧ some k_ ≠ (.slice Ao66 y374.length co66 : Value).ownBlock)) (by (with_reducible repeat (first | apply Kd.R_alloc | apply Kd.R_drewN | apply Kd.R_drew)); exact Kd.R_mono HO362.out (fun _ hk => ⟨⟨hk.1.1.2, ⟨hk.1.2, hk.2⟩⟩, hk.1.1.1⟩)) hg hat); have n1_ := Aside0.mk (Kd.R_after (ok := (fun k_ => some k_ ≠ (v361 : Value).ownBlock ∧ some k_ ≠ (v372 : Value).ownBlock ∧ some k_ ≠ (.slice Ao66 y374.length co66 : Value).ownBlock)) (by (with_reducible repeat (first | apply Kd.R_alloc | apply Kd.R_drewN | apply Kd.R_drew)); exact Kd.R_mono HO367.out (fun _ hk => ⟨⟨hk.1.1.2, ⟨hk.1.2, hk.2⟩⟩, hk.1.1.1⟩)) hg hat); have n2_ := Aside0.mk (Kd.R_after (ok := (fun k_ => some k_ ≠ (v361 : Value).ownBlock ∧ some k_ ≠ (v366 : Value).ownBlock ∧ some k_ ≠ (.slice Ao66 y374.length co66 : Value).ownBlock)) (by (with_reducible repeat (first | apply Kd.R_alloc | apply Kd.R_drewN | apply Kd.R_drew)); exact Kd.R_mono HO373.out (fun _ hk => ⟨⟨hk.1.2.1, ⟨hk.1.2.2, hk.2⟩⟩, hk.1.1⟩)) hg hat); have n3_ := Aside0.mk (Kd.R_after (ok := (fun k_ => some k_ ≠ (v361 : Value).ownBlock ∧ some k_ ≠ (v366 : Value).ownBlock ∧ some k_ ≠ (v372 : Value).ownBlock)) (by (with_reducible repeat (first | apply Kd.R_alloc | apply Kd.R_drewN | apply Kd.R_drew)); exact Kd.R_mono HO376.out (fun _ hk => ⟨⟨hk.1.1.2, ⟨hk.1.2, hk.2⟩⟩, hk.1.1.1.2⟩)) hg hat); have n4_ := Aside0.mk (hb); have n5_ := Aside0.mk (ho); clear HO362; clear HO367; clear HO373; clear HO376; clear HB; clear HO_11; have HO362 := n0_; have HO367 := n1_; have HO373 := n2_; have HO376 := n3_; have HB := n4_; have HO379 := n5_; clear n0_ n1_ n2_ n3_ n4_ n5_; clear ho hb hg hat))
             go_roundg k1
             case measure => have := HK1.out; omega
             case rel => exact ⟨(y360), (y365), (y371), (y377), (wrap64 (x12_1 + 1)), (by first | rfl | (simp; done) | (simp [*]; done)), H', ⟨by have := HK1.out; omega⟩, ⟨by (with_reducible repeat (first | apply Kd.R_alloc | apply Kd.R_drewN | apply Kd.R_drew)); exact Kd.R_mono HO362.out (fun _ hk => ⟨hk.1.1, ⟨hk.1.2.1, hk.2⟩⟩)⟩, ⟨by (with_reducible repeat (first | apply Kd.R_alloc | apply Kd.R_drewN | apply Kd.R_drew)); exact Kd.R_mono HO367.out (fun _ hk => ⟨hk.1.1, ⟨hk.1.2.1, hk.2⟩⟩)⟩, ⟨by (with_reducible repeat (first | apply Kd.R_alloc | apply Kd.R_drewN | apply Kd.R_drew)); exact Kd.R_mono HO373.out (fun _ hk => ⟨hk.1.1, ⟨hk.1.2.1, hk.2⟩⟩)⟩, ⟨by (with_reducible repeat (first | apply Kd.R_alloc | apply Kd.R_drewN | apply Kd.R_drew)); exact Kd.R_mono HO379.out (fun _ hk => ⟨hk.1, ⟨hk.2.1, hk.2.2.1⟩⟩)⟩, ⟨by repeat (first | (with_reducible first | exact HB.out | apply below_alloc | apply pw_below_drewN | apply below_drew1) | exact HB.out)⟩⟩
            ·rw [if_neg c55] at H
             exact absurd H (by simp)
           ·rw [if_neg c54] at H
            exact absurd H (by simp)
          ·rw [if_neg c52] at H
           exact absurd H (by simp)
         ·rw [if_neg c50] at H
          exact absurd H (by simp)
       ·rw [if_neg c47] at H
        exact absurd H (by simp)
      ·rw [if_neg c46] at H
       have c46b0 : decide (x12_1 < (l0.length : Int)) = false := decide_eq_false c46
       clear c46
       replace H := Option.bind_eq_some_iff.mp H
       obtain ⟨t380, A670, H⟩ := H
       (try dsimp only at H)
       have A67 := Aside0.mk A670
       clear A670
       replace H := Option.bind_eq_some_iff.mp H
       obtain ⟨t381, A680, H⟩ := H
       (try dsimp only at H)
       have A68 := Aside0.mk A680
       clear A680
       by_cases c69 : t380.size + t381.size ≤ 9223372036854775807
       ·rw [if_pos c69] at H
        have c69b0 := eq_true c69
        have c69b1 : decide (t380.size + t381.size ≤ 9223372036854775807) = true := decide_eq_true c69
        try have c69b2 : (9223372036854775807 < t380.size + t381.size) = False := eq_false (Nat.not_lt.2 c69)
        replace H := Option.bind_eq_some_iff.mp H
        obtain ⟨t382, A700, H⟩ := H
        (try dsimp only at H)
        have A70 := Aside0.mk A700
        clear A700
        by_cases c71 : (t380 ++ t381).size + t382.size ≤ 9223372036854775807
        ·rw [if_pos c71] at H
         have c71b0 := eq_true c71
         have c71b1 : decide ((t380 ++ t381).size + t382.size ≤ 9223372036854775807) = true := decide_eq_true c71
         try (have c71b3 : (9223372036854775807 < t380.size + t381.size + t382.size) = False := eq_false (by have h_ := c71; simp only [ByteArray.size_append] at h_; exact Nat.not_lt.2 h_))
         try have c71b2 : (9223372036854775807 < (t380 ++ t381).size + t382.size) = False := eq_false (Nat.not_lt.2 c71)
         by_cases c72 : ((t380 ++ t381) ++ t382).size + (strOfNums x8_1).size ≤ 9223372036854775807
         ·rw [if_pos c72] at H
          have c72b0 := eq_true c72
          have c72b1 : decide (((t380 ++ t381) ++ t382).size + (strOfNums x8_1).size ≤ 9223372036854775807) = true := decide_eq_true c72
          try (have c72b3 : (9223372036854775807 < t380.size + t381.size + t382.size + (strOfNums x8_1).size) = False := eq_false (by have h_ := c72; simp only [ByteArray.size_append] at h_; exact Nat.not_lt.2 h_))
          try have c72b2 : (9223372036854775807 < ((t380 ++ t381) ++ t382).size + (strOfNums x8_1).size) = False := eq_false (Nat.not_lt.2 c72)
          by_cases c73 : (((t380 ++ t381) ++ t382) ++ (strOfNums x8_1)).size + 4 ≤ 9223372036854775807
          ·rw [if_pos c73] at H
           have c73b0 := eq_true c73
           have c73b1 : decide ((((t380 ++ t381) ++ t382) ++ (strOfNums x8_1)).size + 4 ≤ 9223372036854775807) = true := decide_eq_true c73
           try (have c73b3 : (9223372036854775807 < t380.size + t381.size + t382.size + (strOfNums x8_1).size + 4) = False := eq_false (by have h_ := c73; simp only [ByteArray.size_append] at h_; exact Nat.not_lt.2 h_))
           try have c73b2 : (9223372036854775807 < (((t380 ++ t381) ++ t382) ++ (strOfNums x8_1)).size + 4) = False := eq_false (Nat.not_lt.2 c73)
           by_cases c74 : ((((t380 ++ t381) ++ t382) ++ (strOfNums x8_1)) ++ (⟨#[255, 255, 0, 0]⟩ : ByteArray)).size + (strOfNums x9_1).size ≤ 9223372036854775807
           ·rw [if_pos c74] at H
            have c74b0 := eq_true c74
            have c74b1 : decide (((((t380 ++ t381) ++ t382) ++ (strOfNums x8_1)) ++ (⟨#[255, 255, 0, 0]⟩ : ByteArray)).size + (strOfNums x9_1).size ≤ 9223372036854775807) = true := decide_eq_true c74
            try (have c74b3 : (9223372036854775807 < t380.size + t381.size + t382.size + (strOfNums x8_1).size + 4 + (strOfNums x9_1).size) = False := eq_false (by have h_ := c74; simp only [ByteArray.size_append] at h_; exact Nat.not_lt.2 h_))
            try have c74b2 : (9223372036854775807 < ((((t380 ++ t381) ++ t382) ++ (strOfNums x8_1)) ++ (⟨#[255, 255, 0, 0]⟩ : ByteArray)).size + (strOfNums x9_1).size) = False := eq_false (Nat.not_lt.2 c74)
            by_cases c75 : (((((t380 ++ t381) ++ t382) ++ (strOfNums x8_1)) ++ (⟨#[255, 255, 0, 0]⟩ : ByteArray)) ++ (strOfNums x9_1)).size + 2 ≤ 9223372036854775807
            ·rw [if_pos c75] at H
             have c75b0 := eq_true c75
             have c75b1 : decide ((((((t380 ++ t381) ++ t382) ++ (strOfNums x8_1)) ++ (⟨#[255, 255, 0, 0]⟩ : ByteArray)) ++ (strOfNums x9_1)).size + 2 ≤ 9223372036854775807) = true := decide_eq_true c75
             try (have c75b3 : (9223372036854775807 < t380.size + t381.size + t382.size + (strOfNums x8_1).size + 4 + (strOfNums x9_1).size + 2) = False := eq_false (by have h_ := c75; simp only [ByteArray.size_append] at h_; exact Nat.not_lt.2 h_))
             try have c75b2 : (9223372036854775807 < (((((t380 ++ t381) ++ t382) ++ (strOfNums x8_1)) ++ (⟨#[255, 255, 0, 0]⟩ : ByteArray)) ++ (strOfNums x9_1)).size + 2) = False := eq_false (Nat.not_lt.2 c75)
             by_cases c76 : ((((((t380 ++ t381) ++ t382) ++ (strOfNums x8_1)) ++ (⟨#[255, 255, 0, 0]⟩ : ByteArray)) ++ (strOfNums x9_1)) ++ (⟨#[255, 255]⟩ : ByteArray)).size + (strOfNums x10_1).size ≤ 9223372036854775807
             ·rw [if_pos c76] at H
              have c76b0 := eq_true c76
              have c76b1 : decide (((((((t380 ++ t381) ++ t382) ++ (strOfNums x8_1)) ++ (⟨#[255, 255, 0, 0]⟩ : ByteArray)) ++ (strOfNums x9_1)) ++ (⟨#[255, 255]⟩ : ByteArray)).size + (strOfNums x10_1).size ≤ 9223372036854775807) = true := decide_eq_true c76
              try (have c76b3 : (9223372036854775807 < t380.size + t381.size + t382.size + (strOfNums x8_1).size + 4 + (strOfNums x9_1).size + 2 + (strOfNums x10_1).size) = False := eq_false (by have h_ := c76; simp only [ByteArray.size_append] at h_; exact Nat.not_lt.2 h_))
              try have c76b2 : (9223372036854775807 < ((((((t380 ++ t381) ++ t382) ++ (strOfNums x8_1)) ++ (⟨#[255, 255, 0, 0]⟩ : ByteArray)) ++ (strOfNums x9_1)) ++ (⟨#[255, 255]⟩ : ByteArray)).size + (strOfNums x10_1).size) = False := eq_false (Nat.not_lt.2 c76)
              by_cases c77 : (((((((t380 ++ t381) ++ t382) ++ (strOfNums x8_1)) ++ (⟨#[255, 255, 0, 0]⟩ : ByteArray)) ++ (strOfNums x9_1)) ++ (⟨#[255, 255]⟩ : ByteArray)) ++ (strOfNums x10_1)).size + 2 ≤ 9223372036854775807
              ·rw [if_pos c77] at H
               have c77b0 := eq_true c77
               have c77b1 : decide ((((((((t380 ++ t381) ++ t382) ++ (strOfNums x8_1)) ++ (⟨#[255, 255, 0, 0]⟩ : ByteArray)) ++ (strOfNums x9_1)) ++ (⟨#[255, 255]⟩ : ByteArray)) ++ (strOfNums x10_1)).size + 2 ≤ 9223372036854775807) = true := decide_eq_true c77
               try (have c77b3 : (9223372036854775807 < t380.size + t381.size + t382.size + (strOfNums x8_1).size + 4 + (strOfNums x9_1).size + 2 + (strOfNums x10_1).size + 2) = False := eq_false (by have h_ := c77; simp only [ByteArray.size_append] at h_; exact Nat.not_lt.2 h_))
               try have c77b2 : (9223372036854775807 < (((((((t380 ++ t381) ++ t382) ++ (strOfNums x8_1)) ++ (⟨#[255, 255, 0, 0]⟩ : ByteArray)) ++ (strOfNums x9_1)) ++ (⟨#[255, 255]⟩ : ByteArray)) ++ (strOfNums x10_1)).size + 2) = False := eq_false (Nat.not_lt.2 c77)
               by_cases c78 : ((((((((t380 ++ t381) ++ t382) ++ (strOfNums x8_1)) ++ (⟨#[255, 255, 0, 0]⟩ : ByteArray)) ++ (strOfNums x9_1)) ++ (⟨#[255, 255]⟩ : ByteArray)) ++ (strOfNums x10_1)) ++ (⟨#[0, 1]⟩ : ByteArray)).size + (strOfNums x11_1).size ≤ 9223372036854775807
               ·rw [if_pos c78] at H
                have c78b0 := eq_true c78
                have c78b1 : decide (((((((((t380 ++ t381) ++ t382) ++ (strOfNums x8_1)) ++ (⟨#[255, 255, 0, 0]⟩ : ByteArray)) ++ (strOfNums x9_1)) ++ (⟨#[255, 255]⟩ : ByteArray)) ++ (strOfNums x10_1)) ++ (⟨#[0, 1]⟩ : ByteArray)).size + (strOfNums x11_1).size ≤ 9223372036854775807) = true := decide_eq_true c78
                try (have c78b3 : (9223372036854775807 < t380.size + t381.size + t382.size + (strOfNums x8_1).size + 4 + (strOfNums x9_1).size + 2 + (strOfNums x10_1).size + 2 + (strOfNums x11_1).size) = False := eq_false (by have h_ := c78; simp only [ByteArray.size_append] at h_; exact Nat.not_lt.2 h_))
                try have c78b2 : (9223372036854775807 < ((((((((t380 ++ t381) ++ t382) ++ (strOfNums x8_1)) ++ (⟨#[255, 255, 0, 0]⟩ : ByteArray)) ++ (strOfNums x9_1)) ++ (⟨#[255, 255]⟩ : ByteArray)) ++ (strOfNums x10_1)) ++ (⟨#[0, 1]⟩ : ByteArray)).size + (strOfNums x11_1).size) = False := eq_false (Nat.not_lt.2 c78)
                by_cases c79 : (((((((((t380 ++ t381) ++ t382) ++ (strOfNums x8_1)) ++ (⟨#[255, 255, 0, 0]⟩ : ByteArray)) ++ (strOfNums x9_1)) ++ (⟨#[255, 255]⟩ : ByteArray)) ++ (strOfNums x10_1)) ++ (⟨#[0, 1]⟩ : ByteArray)) ++ (strOfNums x11_1)).size + 2 ≤ 9223372036854775807
                ·rw [if_pos c79] at H
                 have c79b0 := eq_true c79
                 have c79b1 : decide ((((((((((t380 ++ t381) ++ t382) ++ (strOfNums x8_1)) ++ (⟨#[255, 255, 0, 0]⟩ : ByteArray)) ++ (strOfNums x9_1)) ++ (⟨#[255, 255]⟩ : ByteArray)) ++ (strOfNums x10_1)) ++ (⟨#[0, 1]⟩ : ByteArray)) ++ (strOfNums x11_1)).size + 2 ≤ 9223372036854775807) = true := decide_eq_true c79
                 try (have c79b3 : (9223372036854775807 < t380.size + t381.size + t382.size + (strOfNums x8_1).size + 4 + (strOfNums x9_1).size + 2 + (strOfNums x10_1).size + 2 + (strOfNums x11_1).size + 2) = False := eq_false (by have h_ := c79; simp only [ByteArray.size_append] at h_; exact Nat.not_lt.2 h_))
                 try have c79b2 : (9223372036854775807 < (((((((((t380 ++ t381) ++ t382) ++ (strOfNums x8_1)) ++ (⟨#[255, 255, 0, 0]⟩ : ByteArray)) ++ (strOfNums x9_1)) ++ (⟨#[255, 255]⟩ : ByteArray)) ++ (strOfNums x10_1)) ++ (⟨#[0, 1]⟩ : ByteArray)) ++ (strOfNums x11_1)).size + 2) = False := eq_false (Nat.not_lt.2 c79)
                 replace H := Option.bind_eq_some_iff.mp H
                 obtain ⟨t383, A800, H⟩ := H
                 (try dsimp only at H)
                 have A80 := Aside0.mk A800
                 clear A800
                 by_cases c81 : 4 + t383.size ≤ 9223372036854775807
                 ·rw [if_pos c81] at H
                  have c81b0 := eq_true c81
                  have c81b1 : decide (4 + t383.size ≤ 9223372036854775807) = true := decide_eq_true c81
                  try have c81b2 : (9223372036854775807 < 4 + t383.size) = False := eq_false (Nat.not_lt.2 c81)
                  replace H := Option.bind_eq_some_iff.mp H
                  obtain ⟨t384, A820, H⟩ := H
                  (try dsimp only at H)
                  have A82 := Aside0.mk A820
                  clear A820
                  by_cases c83 : ((⟨#[0, 0, 0, 1]⟩ : ByteArray) ++ t383).size + t384.size ≤ 9223372036854775807
                  ·rw [if_pos c83] at H
                   have c83b0 := eq_true c83
                   have c83b1 : decide (((⟨#[0, 0, 0, 1]⟩ : ByteArray) ++ t383).size + t384.size ≤ 9223372036854775807) = true := decide_eq_true c83
                   try (have c83b3 : (9223372036854775807 < 4 + t383.size + t384.size) = False := eq_false (by have h_ := c83; simp only [ByteArray.size_append] at h_; exact Nat.not_lt.2 h_))
                   try have c83b2 : (9223372036854775807 < ((⟨#[0, 0, 0, 1]⟩ : ByteArray) ++ t383).size + t384.size) = False := eq_false (Nat.not_lt.2 c83)
                   replace H := Option.bind_eq_some_iff.mp H
                   obtain ⟨t385, A840, H⟩ := H
                   (try dsimp only at H)
                   have A84 := Aside0.mk A840
                   clear A840
                   by_cases c85 : (((⟨#[0, 0, 0, 1]⟩ : ByteArray) ++ t383) ++ t384).size + t385.size ≤ 9223372036854775807
                   ·rw [if_pos c85] at H
                    have c85b0 := eq_true c85
                    have c85b1 : decide ((((⟨#[0, 0, 0, 1]⟩ : ByteArray) ++ t383) ++ t384).size + t385.size ≤ 9223372036854775807) = true := decide_eq_true c85
                    try (have c85b3 : (9223372036854775807 < 4 + t383.size + t384.size + t385.size) = False := eq_false (by have h_ := c85; simp only [ByteArray.size_append] at h_; exact Nat.not_lt.2 h_))
                    try have c85b2 : (9223372036854775807 < (((⟨#[0, 0, 0, 1]⟩ : ByteArray) ++ t383) ++ t384).size + t385.size) = False := eq_false (Nat.not_lt.2 c85)
                    replace H := Option.bind_eq_some_iff.mp H
                    obtain ⟨t386, A860, H⟩ := H
                    (try dsimp only at H)
                    have A86 := Aside0.mk A860
                    clear A860
                    by_cases c87 : ((((⟨#[0, 0, 0, 1]⟩ : ByteArray) ++ t383) ++ t384) ++ t385).size + t386.size ≤ 9223372036854775807
                    ·rw [if_pos c87] at H
                     have c87b0 := eq_true c87
                     have c87b1 : decide (((((⟨#[0, 0, 0, 1]⟩ : ByteArray) ++ t383) ++ t384) ++ t385).size + t386.size ≤ 9223372036854775807) = true := decide_eq_true c87
                     try (have c87b3 : (9223372036854775807 < 4 + t383.size + t384.size + t385.size + t386.size) = False := eq_false (by have h_ := c87; simp only [ByteArray.size_append] at h_; exact Nat.not_lt.2 h_))
                     try have c87b2 : (9223372036854775807 < ((((⟨#[0, 0, 0, 1]⟩ : ByteArray) ++ t383) ++ t384) ++ t385).size + t386.size) = False := eq_false (Nat.not_lt.2 c87)
                     replace H := Option.bind_eq_some_iff.mp H
                     obtain ⟨t387, A880, H⟩ := H
                     (try dsimp only at H)
                     have A88 := Aside0.mk A880
                     clear A880
                     by_cases c89 : (((((⟨#[0, 0, 0, 1]⟩ : ByteArray) ++ t383) ++ t384) ++ t385) ++ t386).size + t387.size ≤ 9223372036854775807
                     ·rw [if_pos c89] at H
                      have c89b0 := eq_true c89
                      have c89b1 : decide ((((((⟨#[0, 0, 0, 1]⟩ : ByteArray) ++ t383) ++ t384) ++ t385) ++ t386).size + t387.size ≤ 9223372036854775807) = true := decide_eq_true c89
                      try (have c89b3 : (9223372036854775807 < 4 + t383.size + t384.size + t385.size + t386.size + t387.size) = False := eq_false (by have h_ := c89; simp only [ByteArray.size_append] at h_; exact Nat.not_lt.2 h_))
                      try have c89b2 : (9223372036854775807 < (((((⟨#[0, 0, 0, 1]⟩ : ByteArray) ++ t383) ++ t384) ++ t385) ++ t386).size + t387.size) = False := eq_false (Nat.not_lt.2 c89)
                      by_cases c90 : ((((((⟨#[0, 0, 0, 1]⟩ : ByteArray) ++ t383) ++ t384) ++ t385) ++ t386) ++ t387).size + ((((((((((t380 ++ t381) ++ t382) ++ (strOfNums x8_1)) ++ (⟨#[255, 255, 0, 0]⟩ : ByteArray)) ++ (strOfNums x9_1)) ++ (⟨#[255, 255]⟩ : ByteArray)) ++ (strOfNums x10_1)) ++ (⟨#[0, 1]⟩ : ByteArray)) ++ (strOfNums x11_1)) ++ (⟨#[0, 0]⟩ : ByteArray)).size ≤ 9223372036854775807
                      ·rw [if_pos c90] at H
                       have c90b0 := eq_true c90
                       have c90b1 : decide (((((((⟨#[0, 0, 0, 1]⟩ : ByteArray) ++ t383) ++ t384) ++ t385) ++ t386) ++ t387).size + ((((((((((t380 ++ t381) ++ t382) ++ (strOfNums x8_1)) ++ (⟨#[255, 255, 0, 0]⟩ : ByteArray)) ++ (strOfNums x9_1)) ++ (⟨#[255, 255]⟩ : ByteArray)) ++ (strOfNums x10_1)) ++ (⟨#[0, 1]⟩ : ByteArray)) ++ (strOfNums x11_1)) ++ (⟨#[0, 0]⟩ : ByteArray)).size ≤ 9223372036854775807) = true := decide_eq_true c90
                       try (have c90b3 : (9223372036854775807 < 4 + t383.size + t384.size + t385.size + t386.size + t387.size + (t380.size + t381.size + t382.size + (strOfNums x8_1).size + 4 + (strOfNums x9_1).size + 2 + (strOfNums x10_1).size + 2 + (strOfNums x11_1).size + 2)) = False := eq_false (by have h_ := c90; simp only [ByteArray.size_append] at h_; exact Nat.not_lt.2 h_))
                       try have c90b2 : (9223372036854775807 < ((((((⟨#[0, 0, 0, 1]⟩ : ByteArray) ++ t383) ++ t384) ++ t385) ++ t386) ++ t387).size + ((((((((((t380 ++ t381) ++ t382) ++ (strOfNums x8_1)) ++ (⟨#[255, 255, 0, 0]⟩ : ByteArray)) ++ (strOfNums x9_1)) ++ (⟨#[255, 255]⟩ : ByteArray)) ++ (strOfNums x10_1)) ++ (⟨#[0, 1]⟩ : ByteArray)) ++ (strOfNums x11_1)) ++ (⟨#[0, 0]⟩ : ByteArray)).size) = False := eq_false (Nat.not_lt.2 c90)
                       simp only [Option.some.injEq, Prod.mk.injEq] at H
                       obtain ⟨rfl, rfl⟩ := H
                       try go_wp2
                       have n0_ := Aside0.mk (Kd.R_drew HO_8.out)
                       have n1_ := Aside0.mk (Kd.R_drew HO_9.out)
                       have n2_ := Aside0.mk (Kd.R_drew HO_10.out)
                       have n3_ := Aside0.mk (Kd.R_drew HO_11.out)
                       have n4_ := Aside0.mk (below_drew1 HB.out)
                       clear HO_8
                       clear HO_9
                       clear HO_10
                       clear HO_11
                       clear HB
                       have HO_8 := n0_
                       have HO_9 := n1_
                       have HO_10 := n2_
                       have HO_11 := n3_
                       have HB := n4_
                       clear n0_ n1_ n2_ n3_ n4_
                       refine start_ (n := 25) (S := fun w' => (convert 43 9 (u8)).run Try.prog w' = .ok (.string (strOfNums x8_1)) w' ∧ (convert 43 9 (u9)).run Try.prog w' = .ok (.string (strOfNums x9_1)) w' ∧ (convert 43 9 (u10)).run Try.prog w' = .ok (.string (strOfNums x10_1)) w' ∧ (convert 43 9 (u11)).run Try.prog w' = .ok (.string (strOfNums x11_1)) w') (ds := []) #[false, false, false, false, false, false, false, false, false, false, false, false, false, false, false, false, false, false, false, false, false, false, false, false, false] (by kernel_rfl) rfl rfl ⟨(own_string (P := Try.prog) Try.underlying43 Try.underlying5 Try.underlying9 (Kd.own_of_R HO_8.out)), (own_string (P := Try.prog) Try.underlying43 Try.underlying5 Try.underlying9 (Kd.own_of_R HO_9.out)), (own_string (P := Try.prog) Try.underlying43 Try.underlying5 Try.underlying9 (Kd.own_of_R HO_10.out)), (own_string (P := Try.prog) Try.underlying43 Try.underlying5 Try.underlying9 (Kd.own_of_R HO_11.out))⟩ (fun hHeld => ?_); refine with_tabW colophonref11_Build.tab23 colophonref11_Build.bits23 (fun HT_ HW_ => ?_)
                       generalize wr.drew = w91 at HO_8 HO_9 HO_10 HO_11 HB hHeld ⊢
                       refine pure_ (i := 1) (N := some 120) (v := ?_) (a' := ?_) #[false, true, false, false, false, false, false, false, false, false, false, false, false, false, false, false, false, false, false, false, false, false, false, false, false] rfl rfl (any_of HT_.out (by kernel_rfl)) (fun _ _ _ h => h) (Or.inl ⟨by rfl, ?_⟩) ?_ ?_
                       rotate_left
                       ·intro w'
                        go_simp
                        with_reducible rfl
                       rotate_left
                       ·simp only [Act.put, List.setIfInBounds_toArray, List.set_cons_zero, List.set_cons_succ, i64_w, i32_w]
                        rfl
                       refine pure_ (i := 2) (N := some 121) (v := ?_) (a' := ?_) #[false, true, true, false, false, false, false, false, false, false, false, false, false, false, false, false, false, false, false, false, false, false, false, false, false] rfl rfl (any_of HT_.out (by kernel_rfl)) (fun _ _ _ h => h) (Or.inl ⟨by rfl, ?_⟩) ?_ ?_
                       rotate_left
                       ·intro w'
                        go_simp
                        with_reducible rfl
                       rotate_left
                       ·simp only [Act.put, List.setIfInBounds_toArray, List.set_cons_zero, List.set_cons_succ, i64_w, i32_w]
                        rfl
                       refine pure_ (i := 5) (N := some 124) (v := ?_) (a' := ?_) #[false, true, true, false, false, true, false, false, false, false, false, false, false, false, false, false, false, false, false, false, false, false, false, false, false] rfl rfl (any_of HT_.out (by kernel_rfl)) (fun _ _ _ h => h) (Or.inl ⟨by rfl, ?_⟩) ?_ ?_
                       rotate_left
                       ·intro w'
                        go_simp
                        with_reducible rfl
                       rotate_left
                       ·simp only [Act.put, List.setIfInBounds_toArray, List.set_cons_zero, List.set_cons_succ, i64_w, i32_w]
                        rfl
                       refine pure_ (i := 8) (N := some 127) (v := ?_) (a' := ?_) #[false, true, true, false, false, true, false, false, true, false, false, false, false, false, false, false, false, false, false, false, false, false, false, false, false] rfl rfl (any_of HT_.out (by kernel_rfl)) (fun _ _ _ h => h) (Or.inl ⟨by rfl, ?_⟩) ?_ ?_
                       rotate_left
                       ·intro w'
                        go_simp
                        with_reducible rfl
                       rotate_left
                       ·simp only [Act.put, List.setIfInBounds_toArray, List.set_cons_zero, List.set_cons_succ, i64_w, i32_w]
                        rfl
                       refine pure_ (i := 12) (N := some 131) (v := ?_) (a' := ?_) #[false, true, true, false, false, true, false, false, true, false, false, false, true, false, false, false, false, false, false, false, false, false, false, false, false] rfl rfl (any_of HT_.out (by kernel_rfl)) (fun _ _ _ h => h) (Or.inl ⟨by rfl, ?_⟩) ?_ ?_
                       rotate_left
                       ·intro w'
                        go_simp
                        with_reducible rfl
                       rotate_left
                       ·simp only [Act.put, List.setIfInBounds_toArray, List.set_cons_zero, List.set_cons_succ, i64_w, i32_w]
                        rfl
                       refine pure_ (i := 16) (N := some 135) (v := ?_) (a' := ?_) #[false, true, true, false, false, true, false, false, true, false, false, false, true, false, false, false, true, false, false, false, false, false, false, false, false] rfl rfl (any_of HT_.out (by kernel_rfl)) (fun _ _ _ h => h) (Or.inl ⟨by rfl, ?_⟩) ?_ ?_
                       rotate_left
                       ·intro w'
                        go_simp
                        with_reducible rfl
                       rotate_left
                       ·simp only [Act.put, List.setIfInBounds_toArray, List.set_cons_zero, List.set_cons_succ, i64_w, i32_w]
                        rfl
                       refine pure_ (i := 20) (N := some 139) (v := ?_) (a' := ?_) #[false, true, true, false, false, true, false, false, true, false, false, false, true, false, false, false, true, false, false, false, true, false, false, false, false] rfl rfl (any_of HT_.out (by kernel_rfl)) (fun _ _ _ h => h) (Or.inl ⟨by rfl, ?_⟩) ?_ ?_
                       rotate_left
                       ·intro w'
                        go_simp
                        with_reducible rfl
                       rotate_left
                       ·simp only [Act.put, List.setIfInBounds_toArray, List.set_cons_zero, List.set_cons_succ, i64_w, i32_w]
                        rfl
                       refine take_ (i := 9) (N := some 128) (v := ?_) (a' := ?_) #[false, true, true, false, false, true, false, false, true, true, false, false, true, false, false, false, true, false, false, false, true, false, false, false, false] rfl rfl (take_ofW HT_.out HW_.out (by kernel_rfl)) (fun _ _ _ h => h) (Or.inl ⟨by rfl, ?_⟩) hHeld ?_ ?_
                       rotate_left
                       ·rintro w' ⟨s0, s1, s2, s3⟩
                        go_simp
                        with_reducible rfl
                       rotate_left
                       ·simp only [Act.put, List.setIfInBounds_toArray, List.set_cons_zero, List.set_cons_succ, i64_w, i32_w]
                        rfl
                       refine take_ (i := 13) (N := some 132) (v := ?_) (a' := ?_) #[false, true, true, false, false, true, false, false, true, true, false, false, true, true, false, false, true, false, false, false, true, false, false, false, false] rfl rfl (take_ofW HT_.out HW_.out (by kernel_rfl)) (fun _ _ _ h => h) (Or.inl ⟨by rfl, ?_⟩) hHeld ?_ ?_
                       rotate_left
                       ·rintro w' ⟨s0, s1, s2, s3⟩
                        go_simp
                        with_reducible rfl
                       rotate_left
                       ·simp only [Act.put, List.setIfInBounds_toArray, List.set_cons_zero, List.set_cons_succ, i64_w, i32_w]
                        rfl
                       refine take_ (i := 17) (N := some 136) (v := ?_) (a' := ?_) #[false, true, true, false, false, true, false, false, true, true, false, false, true, true, false, false, true, true, false, false, true, false, false, false, false] rfl rfl (take_ofW HT_.out HW_.out (by kernel_rfl)) (fun _ _ _ h => h) (Or.inl ⟨by rfl, ?_⟩) hHeld ?_ ?_
                       rotate_left
                       ·rintro w' ⟨s0, s1, s2, s3⟩
                        go_simp
                        with_reducible rfl
                       rotate_left
                       ·simp only [Act.put, List.setIfInBounds_toArray, List.set_cons_zero, List.set_cons_succ, i64_w, i32_w]
                        rfl
                       refine take_ (i := 21) (N := some 140) (v := ?_) (a' := ?_) #[false, true, true, false, false, true, false, false, true, true, false, false, true, true, false, false, true, true, false, false, true, true, false, false, false] rfl rfl (take_ofW HT_.out HW_.out (by kernel_rfl)) (fun _ _ _ h => h) (Or.inl ⟨by rfl, ?_⟩) hHeld ?_ ?_
                       rotate_left
                       ·rintro w' ⟨s0, s1, s2, s3⟩
                        go_simp
                        with_reducible rfl
                       rotate_left
                       ·simp only [Act.put, List.setIfInBounds_toArray, List.set_cons_zero, List.set_cons_succ, i64_w, i32_w]
                        rfl
                       refine one_ (i := 0) (N := some 119) #[true, true, true, false, false, true, false, false, true, true, false, false, true, true, false, false, true, true, false, false, true, true, false, false, false] rfl rfl (one_of HT_.out (by kernel_rfl)) (by decide) (fun K hK => ?_)
                       refine goes_ Try.func31 (by kernel_rfl) rfl #[.int .i64 0] (by rfl) rfl rfl (by (try simp only [List.map_toArray, List.map_cons, List.map_nil]); first | done | rfl | (simp only [List.length_drop, List.length_take]; rfl)) ?_
                       with_reducible refine (colophonref11_two.calls 0 t380 _ A67.out).mono ?_
                       rintro e w92 ⟨rfl, hb⟩
                       refine ⟨_, rfl, ?_⟩
                       have n0_ := Aside0.mk (Kd.R_below (by (with_reducible repeat (first | apply Kd.R_alloc | apply Kd.R_drewN | apply Kd.R_drew)); exact HO_8.out) hb)
                       have n1_ := Aside0.mk (Kd.R_below (by (with_reducible repeat (first | apply Kd.R_alloc | apply Kd.R_drewN | apply Kd.R_drew)); exact HO_9.out) hb)
                       have n2_ := Aside0.mk (Kd.R_below (by (with_reducible repeat (first | apply Kd.R_alloc | apply Kd.R_drewN | apply Kd.R_drew)); exact HO_10.out) hb)
                       have n3_ := Aside0.mk (Kd.R_below (by (with_reducible repeat (first | apply Kd.R_alloc | apply Kd.R_drewN | apply Kd.R_drew)); exact HO_11.out) hb)
                       have n4_ := Aside0.mk (below_step (by repeat (first | (with_reducible first | exact HB.out | apply below_alloc | apply pw_below_drewN | apply below_drew1) | exact HB.out)) hb)
                       clear HO_8
                       clear HO_9
                       clear HO_10
                       clear HO_11
                       clear HB
                       have HO_8 := n0_
                       have HO_9 := n1_
                       have HO_10 := n2_
                       have HO_11 := n3_
                       have HB := n4_
                       clear n0_ n1_ n2_ n3_ n4_
                       (try clear hb)
                       (try clear hb2)
                       (try clear hk)
                       (try clear hi)
                       refine hK.out _ _ ⟨(own_string (P := Try.prog) Try.underlying43 Try.underlying5 Try.underlying9 (Kd.own_of_R HO_8.out)), (own_string (P := Try.prog) Try.underlying43 Try.underlying5 Try.underlying9 (Kd.own_of_R HO_9.out)), (own_string (P := Try.prog) Try.underlying43 Try.underlying5 Try.underlying9 (Kd.own_of_R HO_10.out)), (own_string (P := Try.prog) Try.underlying43 Try.underlying5 Try.underlying9 (Kd.own_of_R HO_11.out))⟩ (fun hHeld => ?_)
                       clear hK K
                       refine norm_ (a' := ?_) ?_ ?_
                       rotate_left
                       ·show Act.put _ (some 119) _ = _
                        simp only [Act.put, List.setIfInBounds_toArray, List.set_cons_zero, List.set_cons_succ, i64_w, i32_w]
                        rfl
                       refine one_ (i := 3) (N := some 122) #[true, true, true, true, false, true, false, false, true, true, false, false, true, true, false, false, true, true, false, false, true, true, false, false, false] rfl rfl (one_of HT_.out (by kernel_rfl)) (by decide) (fun K hK => ?_)
                       refine goes_ Try.func31 (by kernel_rfl) rfl #[.int .i64 (wrap64 (2 * (wrap64 ((l0.length : Int) + 1))))] (by rfl) rfl rfl (by (try simp only [List.map_toArray, List.map_cons, List.map_nil]); first | done | rfl | (simp only [List.length_drop, List.length_take]; rfl)) ?_
                       with_reducible refine (colophonref11_two.calls (wrap64 (2 * (wrap64 ((l0.length : Int) + 1)))) t381 _ A68.out).mono ?_
                       rintro e w93 ⟨rfl, hb⟩
                       refine ⟨_, rfl, ?_⟩
                       have n0_ := Aside0.mk (Kd.R_below (by (with_reducible repeat (first | apply Kd.R_alloc | apply Kd.R_drewN | apply Kd.R_drew)); exact HO_8.out) hb)
                       have n1_ := Aside0.mk (Kd.R_below (by (with_reducible repeat (first | apply Kd.R_alloc | apply Kd.R_drewN | apply Kd.R_drew)); exact HO_9.out) hb)
                       have n2_ := Aside0.mk (Kd.R_below (by (with_reducible repeat (first | apply Kd.R_alloc | apply Kd.R_drewN | apply Kd.R_drew)); exact HO_10.out) hb)
                       have n3_ := Aside0.mk (Kd.R_below (by (with_reducible repeat (first | apply Kd.R_alloc | apply Kd.R_drewN | apply Kd.R_drew)); exact HO_11.out) hb)
                       have n4_ := Aside0.mk (below_step (by repeat (first | (with_reducible first | exact HB.out | apply below_alloc | apply pw_below_drewN | apply below_drew1) | exact HB.out)) hb)
                       clear HO_8
                       clear HO_9
                       clear HO_10
                       clear HO_11
                       clear HB
                       have HO_8 := n0_
                       have HO_9 := n1_
                       have HO_10 := n2_
                       have HO_11 := n3_
                       have HB := n4_
                       clear n0_ n1_ n2_ n3_ n4_
                       (try clear hb)
                       (try clear hb2)
                       (try clear hk)
                       (try clear hi)
                       refine hK.out _ _ ⟨(own_string (P := Try.prog) Try.underlying43 Try.underlying5 Try.underlying9 (Kd.own_of_R HO_8.out)), (own_string (P := Try.prog) Try.underlying43 Try.underlying5 Try.underlying9 (Kd.own_of_R HO_9.out)), (own_string (P := Try.prog) Try.underlying43 Try.underlying5 Try.underlying9 (Kd.own_of_R HO_10.out)), (own_string (P := Try.prog) Try.underlying43 Try.underlying5 Try.underlying9 (Kd.own_of_R HO_11.out))⟩ (fun hHeld => ?_)
                       clear hK K
                       refine norm_ (a' := ?_) ?_ ?_
                       rotate_left
                       ·show Act.put _ (some 122) _ = _
                        simp only [Act.put, List.setIfInBounds_toArray, List.set_cons_zero, List.set_cons_succ, i64_w, i32_w]
                        rfl
                       refine pure_ (i := 4) (N := some 123) (v := ?_) (a' := ?_) #[true, true, true, true, true, true, false, false, true, true, false, false, true, true, false, false, true, true, false, false, true, true, false, false, false] rfl rfl (any_of HT_.out (by kernel_rfl)) (fun _ _ _ h => h) (Or.inl ⟨by rfl, ?_⟩) ?_ ?_
                       rotate_left
                       ·intro w'
                        go_simp
                        with_reducible rfl
                       rotate_left
                       ·simp only [Act.put, List.setIfInBounds_toArray, List.set_cons_zero, List.set_cons_succ, i64_w, i32_w]
                        rfl
                       refine one_ (i := 6) (N := some 125) #[true, true, true, true, true, true, true, false, true, true, false, false, true, true, false, false, true, true, false, false, true, true, false, false, false] rfl rfl (one_of HT_.out (by kernel_rfl)) (by decide) (fun K hK => ?_)
                       refine goes_ Try.func32 (by kernel_rfl) rfl #[.int .i64 (wrap64 ((l0.length : Int) + 1)), .int .i64 2] (by rfl) rfl rfl (by (try simp only [List.map_toArray, List.map_cons, List.map_nil]); first | done | rfl | (simp only [List.length_drop, List.length_take]; rfl)) ?_
                       with_reducible refine (colophonref08_Search.calls k1 (wrap64 ((l0.length : Int) + 1)) 2 t382 _ A70.out).mono ?_
                       rintro e w94 ⟨rfl, hb⟩
                       refine ⟨_, rfl, ?_⟩
                       have n0_ := Aside0.mk (Kd.R_below (by (with_reducible repeat (first | apply Kd.R_alloc | apply Kd.R_drewN | apply Kd.R_drew)); exact HO_8.out) hb)
                       have n1_ := Aside0.mk (Kd.R_below (by (with_reducible repeat (first | apply Kd.R_alloc | apply Kd.R_drewN | apply Kd.R_drew)); exact HO_9.out) hb)
                       have n2_ := Aside0.mk (Kd.R_below (by (with_reducible repeat (first | apply Kd.R_alloc | apply Kd.R_drewN | apply Kd.R_drew)); exact HO_10.out) hb)
                       have n3_ := Aside0.mk (Kd.R_below (by (with_reducible repeat (first | apply Kd.R_alloc | apply Kd.R_drewN | apply Kd.R_drew)); exact HO_11.out) hb)
                       have n4_ := Aside0.mk (below_step (by repeat (first | (with_reducible first | exact HB.out | apply below_alloc | apply pw_below_drewN | apply below_drew1) | exact HB.out)) hb)
                       clear HO_8
                       clear HO_9
                       clear HO_10
                       clear HO_11
                       clear HB
                       have HO_8 := n0_
                       have HO_9 := n1_
                       have HO_10 := n2_
                       have HO_11 := n3_
                       have HB := n4_
                       clear n0_ n1_ n2_ n3_ n4_
                       (try clear hb)
                       (try clear hb2)
                       (try clear hk)
                       (try clear hi)
                       refine hK.out _ _ ⟨(own_string (P := Try.prog) Try.underlying43 Try.underlying5 Try.underlying9 (Kd.own_of_R HO_8.out)), (own_string (P := Try.prog) Try.underlying43 Try.underlying5 Try.underlying9 (Kd.own_of_R HO_9.out)), (own_string (P := Try.prog) Try.underlying43 Try.underlying5 Try.underlying9 (Kd.own_of_R HO_10.out)), (own_string (P := Try.prog) Try.underlying43 Try.underlying5 Try.underlying9 (Kd.own_of_R HO_11.out))⟩ (fun hHeld => ?_)
                       clear hK K
                       refine norm_ (a' := ?_) ?_ ?_
                       rotate_left
                       ·show Act.put _ (some 125) _ = _
                        simp only [Act.put, List.setIfInBounds_toArray, List.set_cons_zero, List.set_cons_succ, i64_w, i32_w]
                        rfl
                       refine pure_ (i := 7) (N := some 126) (v := ?_) (a' := ?_) #[true, true, true, true, true, true, true, true, true, true, false, false, true, true, false, false, true, true, false, false, true, true, false, false, false] rfl rfl (any_of HT_.out (by kernel_rfl)) (fun _ _ _ h => h) (Or.inl ⟨by rfl, ?_⟩) ?_ ?_
                       rotate_left
                       ·intro w'
                        go_simp
                        with_reducible rfl
                       rotate_left
                       ·simp only [Act.put, List.setIfInBounds_toArray, List.set_cons_zero, List.set_cons_succ, i64_w, i32_w]
                        rfl
                       refine pure_ (i := 10) (N := some 129) (v := ?_) (a' := ?_) #[true, true, true, true, true, true, true, true, true, true, true, false, true, true, false, false, true, true, false, false, true, true, false, false, false] rfl rfl (any_of HT_.out (by kernel_rfl)) (fun _ _ _ h => h) (Or.inl ⟨by rfl, ?_⟩) ?_ ?_
                       rotate_left
                       ·intro w'
                        go_simp
                        with_reducible rfl
                       rotate_left
                       ·simp only [Act.put, List.setIfInBounds_toArray, List.set_cons_zero, List.set_cons_succ, i64_w, i32_w]
                        rfl
                       refine pure_ (i := 11) (N := some 130) (v := ?_) (a' := ?_) #[true, true, true, true, true, true, true, true, true, true, true, true, true, true, false, false, true, true, false, false, true, true, false, false, false] rfl rfl (any_of HT_.out (by kernel_rfl)) (fun _ _ _ h => h) (Or.inl ⟨by rfl, ?_⟩) ?_ ?_
                       rotate_left
                       ·intro w'
                        go_simp
                        with_reducible rfl
                       rotate_left
                       ·simp only [Act.put, List.setIfInBounds_toArray, List.set_cons_zero, List.set_cons_succ, i64_w, i32_w]
                        rfl
                       refine pure_ (i := 14) (N := some 133) (v := ?_) (a' := ?_) #[true, true, true, true, true, true, true, true, true, true, true, true, true, true, true, false, true, true, false, false, true, true, false, false, false] rfl rfl (any_of HT_.out (by kernel_rfl)) (fun _ _ _ h => h) (Or.inl ⟨by rfl, ?_⟩) ?_ ?_
                       rotate_left
                       ·intro w'
                        go_simp
                        with_reducible rfl
                       rotate_left
                       ·simp only [Act.put, List.setIfInBounds_toArray, List.set_cons_zero, List.set_cons_succ, i64_w, i32_w]
                        rfl
                       refine pure_ (i := 15) (N := some 134) (v := ?_) (a' := ?_) #[true, true, true, true, true, true, true, true, true, true, true, true, true, true, true, true, true, true, false, false, true, true, false, false, false] rfl rfl (any_of HT_.out (by kernel_rfl)) (fun _ _ _ h => h) (Or.inl ⟨by rfl, ?_⟩) ?_ ?_
                       rotate_left
                       ·intro w'
                        go_simp
                        with_reducible rfl
                       rotate_left
                       ·simp only [Act.put, List.setIfInBounds_toArray, List.set_cons_zero, List.set_cons_succ, i64_w, i32_w]
                        rfl
                       refine pure_ (i := 18) (N := some 137) (v := ?_) (a' := ?_) #[true, true, true, true, true, true, true, true, true, true, true, true, true, true, true, true, true, true, true, false, true, true, false, false, false] rfl rfl (any_of HT_.out (by kernel_rfl)) (fun _ _ _ h => h) (Or.inl ⟨by rfl, ?_⟩) ?_ ?_
                       rotate_left
                       ·intro w'
                        go_simp
                        with_reducible rfl
                       rotate_left
                       ·simp only [Act.put, List.setIfInBounds_toArray, List.set_cons_zero, List.set_cons_succ, i64_w, i32_w]
                        rfl
                       refine pure_ (i := 19) (N := some 138) (v := ?_) (a' := ?_) #[true, true, true, true, true, true, true, true, true, true, true, true, true, true, true, true, true, true, true, true, true, true, false, false, false] rfl rfl (any_of HT_.out (by kernel_rfl)) (fun _ _ _ h => h) (Or.inl ⟨by rfl, ?_⟩) ?_ ?_
                       rotate_left
                       ·intro w'
                        go_simp
                        with_reducible rfl
                       rotate_left
                       ·simp only [Act.put, List.setIfInBounds_toArray, List.set_cons_zero, List.set_cons_succ, i64_w, i32_w]
                        rfl
                       refine pure_ (i := 22) (N := some 141) (v := ?_) (a' := ?_) #[true, true, true, true, true, true, true, true, true, true, true, true, true, true, true, true, true, true, true, true, true, true, true, false, false] rfl rfl (any_of HT_.out (by kernel_rfl)) (fun _ _ _ h => h) (Or.inl ⟨by rfl, ?_⟩) ?_ ?_
                       rotate_left
                       ·intro w'
                        go_simp
                        with_reducible rfl
                       rotate_left
                       ·simp only [Act.put, List.setIfInBounds_toArray, List.set_cons_zero, List.set_cons_succ, i64_w, i32_w]
                        rfl
                       refine pure_ (i := 23) (N := some 142) (v := ?_) (a' := ?_) #[true, true, true, true, true, true, true, true, true, true, true, true, true, true, true, true, true, true, true, true, true, true, true, true, false] rfl rfl (any_of HT_.out (by kernel_rfl)) (fun _ _ _ h => h) (Or.inl ⟨by rfl, ?_⟩) ?_ ?_
                       rotate_left
                       ·intro w'
                        go_simp
                        with_reducible rfl
                       rotate_left
                       ·simp only [Act.put, List.setIfInBounds_toArray, List.set_cons_zero, List.set_cons_succ, i64_w, i32_w]
                        rfl
                       refine pure_ (i := 24) (N := some 14) (v := ?_) (a' := ?_) #[true, true, true, true, true, true, true, true, true, true, true, true, true, true, true, true, true, true, true, true, true, true, true, true, true] rfl rfl (any_of HT_.out (by kernel_rfl)) (fun _ _ _ h => h) (Or.inl ⟨by rfl, ?_⟩) ?_ ?_
                       rotate_left
                       ·intro w'
                        go_simp
                        with_reducible rfl
                       rotate_left
                       ·simp only [Act.put, List.setIfInBounds_toArray, List.set_cons_zero, List.set_cons_succ, i64_w, i32_w]
                        rfl
                       refine done_ (done_of HT_.out (by kernel_rfl)) ?_
                       try go_wp2_with (first | ((with_reducible refine gate_callee (f := 31) rfl ?_); refine goesL_ (some 143) rfl rfl Try.func31 (by kernel_rfl) rfl #[.int .i64 3] rfl (by (try simp only [List.map_toArray, List.map_cons, List.map_nil]); first | done | rfl) ?_; (with_reducible refine (colophonref11_two.calls 3 t383 _ A80.out).mono ?_); rintro e w96 ⟨rfl, hb⟩; refine ⟨_, rfl, ?_⟩; have n0_ := Aside0.mk (Kd.R_below (by (with_reducible repeat (first | apply Kd.R_alloc | apply Kd.R_drewN | apply Kd.R_drew)); exact HO_8.out) hb); have n1_ := Aside0.mk (Kd.R_below (by (with_reducible repeat (first | apply Kd.R_alloc | apply Kd.R_drewN | apply Kd.R_drew)); exact HO_9.out) hb); have n2_ := Aside0.mk (Kd.R_below (by (with_reducible repeat (first | apply Kd.R_alloc | apply Kd.R_drewN | apply Kd.R_drew)); exact HO_10.out) hb); have n3_ := Aside0.mk (Kd.R_below (by (with_reducible repeat (first | apply Kd.R_alloc | apply Kd.R_drewN | apply Kd.R_drew)); exact HO_11.out) hb); have n4_ := Aside0.mk (below_step (by repeat (first | (with_reducible first | exact HB.out | apply below_alloc | apply pw_below_drewN | apply below_drew1) | exact HB.out)) hb); clear HO_8; clear HO_9; clear HO_10; clear HO_11; clear HB; have HO_8 := n0_; have HO_9 := n1_; have HO_10 := n2_; have HO_11 := n3_; have HB := n4_; clear n0_ n1_ n2_ n3_ n4_; (try clear hb)) | ((with_reducible refine gate_callee (f := 31) rfl ?_); refine goesL_ (some 145) rfl rfl Try.func31 (by kernel_rfl) rfl #[.int .i64 1] rfl (by (try simp only [List.map_toArray, List.map_cons, List.map_nil]); first | done | rfl) ?_; (with_reducible refine (colophonref11_two.calls 1 t384 _ A82.out).mono ?_); rintro e w97 ⟨rfl, hb⟩; refine ⟨_, rfl, ?_⟩; have n0_ := Aside0.mk (Kd.R_below (by (with_reducible repeat (first | apply Kd.R_alloc | apply Kd.R_drewN | apply Kd.R_drew)); exact HO_8.out) hb); have n1_ := Aside0.mk (Kd.R_below (by (with_reducible repeat (first | apply Kd.R_alloc | apply Kd.R_drewN | apply Kd.R_drew)); exact HO_9.out) hb); have n2_ := Aside0.mk (Kd.R_below (by (with_reducible repeat (first | apply Kd.R_alloc | apply Kd.R_drewN | apply Kd.R_drew)); exact HO_10.out) hb); have n3_ := Aside0.mk (Kd.R_below (by (with_reducible repeat (first | apply Kd.R_alloc | apply Kd.R_drewN | apply Kd.R_drew)); exact HO_11.out) hb); have n4_ := Aside0.mk (below_step (by repeat (first | (with_reducible first | exact HB.out | apply below_alloc | apply pw_below_drewN | apply below_drew1) | exact HB.out)) hb); clear HO_8; clear HO_9; clear HO_10; clear HO_11; clear HB; have HO_8 := n0_; have HO_9 := n1_; have HO_10 := n2_; have HO_11 := n3_; have HB := n4_; clear n0_ n1_ n2_ n3_ n4_; (try clear hb)) | ((with_reducible refine gate_callee (f := 30) rfl ?_); refine goesL_ (some 147) rfl rfl Try.func30 (by kernel_rfl) rfl #[.int .i64 12] rfl (by (try simp only [List.map_toArray, List.map_cons, List.map_nil]); first | done | rfl) ?_; (with_reducible refine (colophonref11_fourb.calls 12 t385 _ A84.out).mono ?_); rintro e w98 ⟨rfl, hb⟩; refine ⟨_, rfl, ?_⟩; have n0_ := Aside0.mk (Kd.R_below (by (with_reducible repeat (first | apply Kd.R_alloc | apply Kd.R_drewN | apply Kd.R_drew)); exact HO_8.out) hb); have n1_ := Aside0.mk (Kd.R_below (by (with_reducible repeat (first | apply Kd.R_alloc | apply Kd.R_drewN | apply Kd.R_drew)); exact HO_9.out) hb); have n2_ := Aside0.mk (Kd.R_below (by (with_reducible repeat (first | apply Kd.R_alloc | apply Kd.R_drewN | apply Kd.R_drew)); exact HO_10.out) hb); have n3_ := Aside0.mk (Kd.R_below (by (with_reducible repeat (first | apply Kd.R_alloc | apply Kd.R_drewN | apply Kd.R_drew)); exact HO_11.out) hb); have n4_ := Aside0.mk (below_step (by repeat (first | (with_reducible first | exact HB.out | apply below_alloc | apply pw_below_drewN | apply below_drew1) | exact HB.out)) hb); clear HO_8; clear HO_9; clear HO_10; clear HO_11; clear HB; have HO_8 := n0_; have HO_9 := n1_; have HO_10 := n2_; have HO_11 := n3_; have HB := n4_; clear n0_ n1_ n2_ n3_ n4_; (try clear hb)) | ((with_reducible refine gate_callee (f := 31) rfl ?_); refine goesL_ (some 149) rfl rfl Try.func31 (by kernel_rfl) rfl #[.int .i64 4] rfl (by (try simp only [List.map_toArray, List.map_cons, List.map_nil]); first | done | rfl) ?_; (with_reducible refine (colophonref11_two.calls 4 t386 _ A86.out).mono ?_); rintro e w99 ⟨rfl, hb⟩; refine ⟨_, rfl, ?_⟩; have n0_ := Aside0.mk (Kd.R_below (by (with_reducible repeat (first | apply Kd.R_alloc | apply Kd.R_drewN | apply Kd.R_drew)); exact HO_8.out) hb); have n1_ := Aside0.mk (Kd.R_below (by (with_reducible repeat (first | apply Kd.R_alloc | apply Kd.R_drewN | apply Kd.R_drew)); exact HO_9.out) hb); have n2_ := Aside0.mk (Kd.R_below (by (with_reducible repeat (first | apply Kd.R_alloc | apply Kd.R_drewN | apply Kd.R_drew)); exact HO_10.out) hb); have n3_ := Aside0.mk (Kd.R_below (by (with_reducible repeat (first | apply Kd.R_alloc | apply Kd.R_drewN | apply Kd.R_drew)); exact HO_11.out) hb); have n4_ := Aside0.mk (below_step (by repeat (first | (with_reducible first | exact HB.out | apply below_alloc | apply pw_below_drewN | apply below_drew1) | exact HB.out)) hb); clear HO_8; clear HO_9; clear HO_10; clear HO_11; clear HB; have HO_8 := n0_; have HO_9 := n1_; have HO_10 := n2_; have HO_11 := n3_; have HB := n4_; clear n0_ n1_ n2_ n3_ n4_; (try clear hb)) | ((with_reducible refine gate_callee (f := 31) rfl ?_); refine goesL_ (some 154) rfl rfl Try.func31 (by kernel_rfl) rfl #[.int .i64 (wrap64 ((((((((((((t380 ++ t381) ++ t382) ++ (strOfNums x8_1)) ++ (⟨#[255, 255, 0, 0]⟩ : ByteArray)) ++ (strOfNums x9_1)) ++ (⟨#[255, 255]⟩ : ByteArray)) ++ (strOfNums x10_1)) ++ (⟨#[0, 1]⟩ : ByteArray)) ++ (strOfNums x11_1)) ++ (⟨#[0, 0]⟩ : ByteArray)).size : Int) + 4))] rfl (by (try simp only [List.map_toArray, List.map_cons, List.map_nil]); first | done | (simp only [ByteArray.size_append, Int.natCast_add]; rfl) | rfl) ?_; (with_reducible refine (colophonref11_two.calls (wrap64 ((((((((((((t380 ++ t381) ++ t382) ++ (strOfNums x8_1)) ++ (⟨#[255, 255, 0, 0]⟩ : ByteArray)) ++ (strOfNums x9_1)) ++ (⟨#[255, 255]⟩ : ByteArray)) ++ (strOfNums x10_1)) ++ (⟨#[0, 1]⟩ : ByteArray)) ++ (strOfNums x11_1)) ++ (⟨#[0, 0]⟩ : ByteArray)).size : Int) + 4)) t387 _ A88.out).mono ?_); rintro e w100 ⟨rfl, hb⟩; refine ⟨_, rfl, ?_⟩; have n0_ := Aside0.mk (Kd.R_below (by (with_reducible repeat (first | apply Kd.R_alloc | apply Kd.R_drewN | apply Kd.R_drew)); exact HO_8.out) hb); have n1_ := Aside0.mk (Kd.R_below (by (with_reducible repeat (first | apply Kd.R_alloc | apply Kd.R_drewN | apply Kd.R_drew)); exact HO_9.out) hb); have n2_ := Aside0.mk (Kd.R_below (by (with_reducible repeat (first | apply Kd.R_alloc | apply Kd.R_drewN | apply Kd.R_drew)); exact HO_10.out) hb); have n3_ := Aside0.mk (Kd.R_below (by (with_reducible repeat (first | apply Kd.R_alloc | apply Kd.R_drewN | apply Kd.R_drew)); exact HO_11.out) hb); have n4_ := Aside0.mk (below_step (by repeat (first | (with_reducible first | exact HB.out | apply below_alloc | apply pw_below_drewN | apply below_drew1) | exact HB.out)) hb); clear HO_8; clear HO_9; clear HO_10; clear HO_11; clear HB; have HO_8 := n0_; have HO_9 := n1_; have HO_10 := n2_; have HO_11 := n3_; have HB := n4_; clear n0_ n1_ n2_ n3_ n4_; (try clear hb)))
                       go_ret2
                       exact ⟨by first | rfl | (simp [errW_none, errW_some] <;> rfl) | (simp [*, errW_none, errW_some] <;> rfl) | (((first | rw [pw_wdiv _ _ (by omega) (by omega)] | rw [pw_wdiv' _ _ (by omega) (by omega)] | rw [Go.IntWalk.wrap64_in _ (by omega)]); repeat (first | rw [pw_wdiv _ _ (by omega) (by omega)] | rw [pw_wdiv' _ _ (by omega) (by omega)] | rw [Go.IntWalk.wrap64_in _ (by omega)])); rfl), by repeat (first | (with_reducible first | exact HB.out | apply below_alloc | apply pw_below_drewN | apply below_drew1) | exact HB.out)⟩
                      ·rw [if_neg c90] at H
                       exact absurd H (by simp)
                     ·rw [if_neg c89] at H
                      exact absurd H (by simp)
                    ·rw [if_neg c87] at H
                     exact absurd H (by simp)
                   ·rw [if_neg c85] at H
                    exact absurd H (by simp)
                  ·rw [if_neg c83] at H
                   exact absurd H (by simp)
                 ·rw [if_neg c81] at H
                  exact absurd H (by simp)
                ·rw [if_neg c79] at H
                 exact absurd H (by simp)
               ·rw [if_neg c78] at H
                exact absurd H (by simp)
              ·rw [if_neg c77] at H
               exact absurd H (by simp)
             ·rw [if_neg c76] at H
              exact absurd H (by simp)
            ·rw [if_neg c75] at H
             exact absurd H (by simp)
           ·rw [if_neg c74] at H
            exact absurd H (by simp)
          ·rw [if_neg c73] at H
           exact absurd H (by simp)
         ·rw [if_neg c72] at H
          exact absurd H (by simp)
        ·rw [if_neg c71] at H
         exact absurd H (by simp)
       ·rw [if_neg c69] at H
        exact absurd H (by simp)
 ·replace c4 := Bool.eq_false_iff.mpr c4
  subst c4
  have H1 : (some ((⟨#[]⟩ : ByteArray), 110)) = some (r1, r2) := by rw [if_neg (show ¬ (false = true) by decide)] at H; exact H
  clear H
  have H := H1
  clear H1
  simp only [Option.some.injEq, Prod.mk.injEq] at H
  obtain ⟨rfl, rfl⟩ := H
  go_enter Try.func17, Try.ntmps17
  go_wp2_with (first | ((with_reducible refine gate_callee (f := 15) rfl ?_); refine goesL_ (some 16) rfl rfl Try.func15 (by kernel_rfl) rfl #[.slice A0 l0.length c0, .int .i64 4096] rfl (by (try simp only [List.map_toArray, List.map_cons, List.map_nil]); first | done | rfl | (simp only [List.length_drop, List.length_take]; rfl)) ?_; (with_reducible refine (colophonref11_Good.calls k _ _ l0 4096 false _ ?side1 ?side2 A3.out).mono ?_); (case side1 => repeat (first | exact HR0.out | (with_reducible refine Kd.C_alloc ?_ _) | (with_reducible refine Kd.C_drewN ?_ _) | (with_reducible refine Kd.C_drew ?_))); (case side2 => exact HC0.out); rintro e w101 ⟨rfl, hb⟩; refine ⟨_, rfl, ?_⟩; have n0_ := Aside0.mk (below_step (by repeat (first | (with_reducible first | exact HB.out | apply below_alloc | apply pw_below_drewN | apply below_drew1) | exact HB.out)) hb); clear HB; have HB := n0_; clear n0_; (try clear hb)))
  go_ret2
  exact ⟨by first | rfl | (simp [errW_none, errW_some] <;> rfl) | (simp [*, errW_none, errW_some] <;> rfl) | (((first | rw [pw_wdiv _ _ (by omega) (by omega)] | rw [pw_wdiv' _ _ (by omega) (by omega)] | rw [Go.IntWalk.wrap64_in _ (by omega)]); repeat (first | rw [pw_wdiv _ _ (by omega) (by omega)] | rw [pw_wdiv' _ _ (by omega) (by omega)] | rw [Go.IntWalk.wrap64_in _ (by omega)])); rfl), by repeat (first | (with_reducible first | exact HB.out | apply below_alloc | apply pw_below_drewN | apply below_drew1) | exact HB.out)⟩

end Go.Proofs.Ytldcgkkbmnahiaa.Px
