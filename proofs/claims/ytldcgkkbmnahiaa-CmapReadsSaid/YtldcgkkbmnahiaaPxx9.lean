-- Lean text written by this session's own program (wip/tools/myprint.py) for this claim
import Derived.Test.YtldcgkkbmnahiaaPxx0
import Derived.Test.YtldcgkkbmnahiaaPxx7
namespace Go.Proofs.Ytldcgkkbmnahiaa.Px
open Go.RowKit Go.Proofs.YtldcgkkbmnahiaaW.PrintWords Go.Proofs.YtldcgkkbmnahiaaW.PrintLast Go.Proofs.YtldcgkkbmnahiaaW.PrintMore
attribute [local go_sem] pw_max2 pw_min2 max_two min_two max_three min_three max_four min_four   -- for this text's walks alone
set_option linter.unusedVariables false
set_option linter.unusedSimpArgs false

/-! ### colophonref11_four: function 26 -/
mutual
def colophonref11_four.j0 : Nat → ByteArray → Int → Int → Int → Bool → Option ((List (S47)) × Bool)
  | 0, _, _, _, _, _ => none
  | k + 1, x0, x1, x6, x7, x57 => if x57 = true then (some (([] : List (S47)), false)) else (if 0 ≤ x7 then (if x7 ≤ (x0.size : Int) then (colophonref11_four.l0 k (x0.extract 0 (x7 : Int).toNat) x1 x6 0) else (none)) else (none))
def colophonref11_four.l0 : Nat → ByteArray → Int → Int → Int → Option ((List (S47)) × Bool)
  | 0, _, _, _, _ => none
  | k + 1, x0, x1, x6, x8 => if x8 < x6 then ((colophonref08_U2.f x0 (wrap64 (14 + (wrap64 (2 * x8))))).bind fun t255 => ((colophonref08_U2.f x0 (wrap64 ((wrap64 (16 + (wrap64 (2 * x6)))) + (wrap64 (2 * x8))))).bind fun t256 => (if t256 > t255 then (some (([] : List (S47)), false)) else (if x8 > 0 then ((colophonref08_U2.f x0 (wrap64 (12 + (wrap64 (2 * x8))))).bind fun t257 => (if t256 ≤ t257 then (some (([] : List (S47)), false)) else (if x8 = (wrap64 (x6 - 1)) then (if t255 = 65535 then (colophonref11_four.l0 k x0 x1 x6 (wrap64 (x8 + 1))) else (some (([] : List (S47)), false))) else (colophonref11_four.l0 k x0 x1 x6 (wrap64 (x8 + 1)))))) else (if x8 = (wrap64 (x6 - 1)) then (if t255 = 65535 then (colophonref11_four.l0 k x0 x1 x6 (wrap64 (x8 + 1))) else (some (([] : List (S47)), false))) else (colophonref11_four.l0 k x0 x1 x6 (wrap64 (x8 + 1)))))))) else (colophonref11_four.l1 k x0 x1 x6 ([] : List (S47)) 0)
def colophonref11_four.l1 : Nat → ByteArray → Int → Int → List (S47) → Int → Option ((List (S47)) × Bool)
  | 0, _, _, _, _, _ => none
  | k + 1, x0, x1, x6, x11, x12 => if x12 < x6 then ((colophonref08_U2.f x0 (wrap64 (14 + (wrap64 (2 * x12))))).bind fun t258 => ((colophonref08_U2.f x0 (wrap64 ((wrap64 (16 + (wrap64 (2 * x6)))) + (wrap64 (2 * x12))))).bind fun t259 => ((colophonref08_U2.f x0 (wrap64 ((wrap64 (16 + (wrap64 (4 * x6)))) + (wrap64 (2 * x12))))).bind fun t260 => ((colophonref08_U2.f x0 (wrap64 ((wrap64 (16 + (wrap64 (6 * x6)))) + (wrap64 (2 * x12))))).bind fun t261 => (colophonref11_four.l2 k x0 x1 x6 x11 x12 t258 t259 t260 (wrap64 ((wrap64 (16 + (wrap64 (6 * x6)))) + (wrap64 (2 * x12)))) t261 t259))))) else (some (x11, true))
def colophonref11_four.l2 : Nat → ByteArray → Int → Int → List (S47) → Int → Int → Int → Int → Int → Int → Int → Option ((List (S47)) × Bool)
  | 0, _, _, _, _, _, _, _, _, _, _, _ => none
  | k + 1, x0, x1, x6, x11, x12, x13, x14, x15, x16, x17, x18 => if x18 ≤ x13 then (if x18 = 65535 then (colophonref11_four.j4 k x0 x1 x6 x11 x12 x13 x14 x15 x16 x17 x18 true) else ((colophonref04_Is.f x18).bind fun t262 => (colophonref11_four.j4 k x0 x1 x6 x11 x12 x13 x14 x15 x16 x17 x18 (!t262)))) else (colophonref11_four.l1 k x0 x1 x6 x11 (wrap64 (x12 + 1)))
def colophonref11_four.j4 : Nat → ByteArray → Int → Int → List (S47) → Int → Int → Int → Int → Int → Int → Int → Bool → Option ((List (S47)) × Bool)
  | 0, _, _, _, _, _, _, _, _, _, _, _, _ => none
  | k + 1, x0, x1, x6, x11, x12, x13, x14, x15, x16, x17, x18, x152 => if x152 = true then (colophonref11_four.l2 k x0 x1 x6 x11 x12 x13 x14 x15 x16 x17 (wrap64 (x18 + 1))) else (if x17 = 0 then ((colophonref11_add.f k x11 x18 (Int.tmod (wrap64 (x18 + x15)) 65536)).bind fun bt263 => (if (Int.tmod (wrap64 (x18 + x15)) 65536) ≥ x1 then (some (([] : List (S47)), false)) else (if bt263.2 = true then (colophonref11_four.l2 k x0 x1 x6 bt263.1 x12 x13 x14 x15 x16 x17 (wrap64 (x18 + 1))) else (some (([] : List (S47)), false))))) else (if (Int.tmod x17 2) = 0 then (colophonref11_four.j5 k x0 x1 x6 x11 x12 x13 x14 x15 x16 x17 x18 (wrap64 ((wrap64 (x16 + x17)) + (wrap64 (2 * (wrap64 (x18 - x14)))))) (decide ((wrap64 ((wrap64 ((wrap64 (x16 + x17)) + (wrap64 (2 * (wrap64 (x18 - x14)))))) + 2)) > (x0.size : Int)))) else (colophonref11_four.j5 k x0 x1 x6 x11 x12 x13 x14 x15 x16 x17 x18 (wrap64 ((wrap64 (x16 + x17)) + (wrap64 (2 * (wrap64 (x18 - x14)))))) true)))
def colophonref11_four.j5 : Nat → ByteArray → Int → Int → List (S47) → Int → Int → Int → Int → Int → Int → Int → Int → Bool → Option ((List (S47)) × Bool)
  | 0, _, _, _, _, _, _, _, _, _, _, _, _, _ => none
  | k + 1, x0, x1, x6, x11, x12, x13, x14, x15, x16, x17, x18, x20, x176 => if x176 = true then (some (([] : List (S47)), false)) else ((colophonref08_U2.f x0 x20).bind fun t267 => (if t267 = 0 then ((colophonref11_add.f k x11 x18 t267).bind fun bt268 => (if t267 ≥ x1 then (some (([] : List (S47)), false)) else (if bt268.2 = true then (colophonref11_four.l2 k x0 x1 x6 bt268.1 x12 x13 x14 x15 x16 x17 (wrap64 (x18 + 1))) else (some (([] : List (S47)), false))))) else ((colophonref11_add.f k x11 x18 (Int.tmod (wrap64 (t267 + x15)) 65536)).bind fun bt272 => (if (Int.tmod (wrap64 (t267 + x15)) 65536) ≥ x1 then (some (([] : List (S47)), false)) else (if bt272.2 = true then (colophonref11_four.l2 k x0 x1 x6 bt272.1 x12 x13 x14 x15 x16 x17 (wrap64 (x18 + 1))) else (some (([] : List (S47)), false)))))))
end
def colophonref11_four.f (k : Nat) (a0 : ByteArray) (a1 : Int) : Option ((List (S47)) × Bool) := (colophonref08_U2.f a0 6).bind fun t252 => ((colophonref08_U2.f a0 2).bind fun t253 => (if (a0.size : Int) < 16 then (colophonref11_four.j0 k a0 a1 (wrap64 (Int.tdiv t252 2)) t253 true) else (if 0 ≤ 2 then (if 2 ≤ (a0.size : Int) then (if (a0.extract 0 2).toList = ([0, 4] : List UInt8) then ((colophonref08_U2.f a0 6).bind fun t254 => (if (Int.tmod t254 2) = 0 then (if (wrap64 (Int.tdiv t252 2)) < 1 then (colophonref11_four.j0 k a0 a1 (wrap64 (Int.tdiv t252 2)) t253 true) else (if t253 < (wrap64 (16 + (wrap64 (8 * (wrap64 (Int.tdiv t252 2)))))) then (colophonref11_four.j0 k a0 a1 (wrap64 (Int.tdiv t252 2)) t253 true) else (colophonref11_four.j0 k a0 a1 (wrap64 (Int.tdiv t252 2)) t253 (decide (t253 > (a0.size : Int)))))) else (colophonref11_four.j0 k a0 a1 (wrap64 (Int.tdiv t252 2)) t253 true))) else (colophonref11_four.j0 k a0 a1 (wrap64 (Int.tdiv t252 2)) t253 true)) else (none)) else (none))))
theorem colophonref11_four.mono_l : ∀ k, (∀ y0 y1 y2 y3 y4, LeO (colophonref11_four.j0 k y0 y1 y2 y3 y4) (colophonref11_four.j0 (k + 1) y0 y1 y2 y3 y4)) ∧ (∀ y0 y1 y2 y3, LeO (colophonref11_four.l0 k y0 y1 y2 y3) (colophonref11_four.l0 (k + 1) y0 y1 y2 y3)) ∧ (∀ y0 y1 y2 y3 y4, LeO (colophonref11_four.l1 k y0 y1 y2 y3 y4) (colophonref11_four.l1 (k + 1) y0 y1 y2 y3 y4)) ∧ (∀ y0 y1 y2 y3 y4 y5 y6 y7 y8 y9 y10, LeO (colophonref11_four.l2 k y0 y1 y2 y3 y4 y5 y6 y7 y8 y9 y10) (colophonref11_four.l2 (k + 1) y0 y1 y2 y3 y4 y5 y6 y7 y8 y9 y10)) ∧ (∀ y0 y1 y2 y3 y4 y5 y6 y7 y8 y9 y10 y11, LeO (colophonref11_four.j4 k y0 y1 y2 y3 y4 y5 y6 y7 y8 y9 y10 y11) (colophonref11_four.j4 (k + 1) y0 y1 y2 y3 y4 y5 y6 y7 y8 y9 y10 y11)) ∧ (∀ y0 y1 y2 y3 y4 y5 y6 y7 y8 y9 y10 y11 y12, LeO (colophonref11_four.j5 k y0 y1 y2 y3 y4 y5 y6 y7 y8 y9 y10 y11 y12) (colophonref11_four.j5 (k + 1) y0 y1 y2 y3 y4 y5 y6 y7 y8 y9 y10 y11 y12))
  | 0 => ⟨fun _ _ _ _ _ r h => by simp [colophonref11_four.j0] at h, fun _ _ _ _ r h => by simp [colophonref11_four.l0] at h, fun _ _ _ _ _ r h => by simp [colophonref11_four.l1] at h, fun _ _ _ _ _ _ _ _ _ _ _ r h => by simp [colophonref11_four.l2] at h, fun _ _ _ _ _ _ _ _ _ _ _ _ r h => by simp [colophonref11_four.j4] at h, fun _ _ _ _ _ _ _ _ _ _ _ _ _ r h => by simp [colophonref11_four.j5] at h⟩
  | k + 1 => by
    obtain ⟨ih0, ih1, ih2, ih3, ih4, ih5⟩ := colophonref11_four.mono_l k
    refine ⟨?_, ?_, ?_, ?_, ?_, ?_⟩
    · intro y0 y1 y2 y3 y4
      unfold colophonref11_four.j0
      repeat' first
      | (with_reducible exact ih0 _ _ _ _ _)
      | (with_reducible exact ih1 _ _ _ _)
      | (with_reducible exact ih2 _ _ _ _ _)
      | (with_reducible exact ih3 _ _ _ _ _ _ _ _ _ _ _)
      | (with_reducible exact ih4 _ _ _ _ _ _ _ _ _ _ _ _)
      | (with_reducible exact ih5 _ _ _ _ _ _ _ _ _ _ _ _ _)
      | (with_reducible exact colophonref11_add.mono _ _ _ _)
      | (with_reducible exact LeO.refl _)
      | (with_reducible exact LeO.none _)
      | (with_reducible refine LeO.ite ?_ ?_)
      | (with_reducible refine LeO.bind ?_ (fun _ => ?_))
      | exact ih0 _ _ _ _ _
      | exact ih1 _ _ _ _
      | exact ih2 _ _ _ _ _
      | exact ih3 _ _ _ _ _ _ _ _ _ _ _
      | exact ih4 _ _ _ _ _ _ _ _ _ _ _ _
      | exact ih5 _ _ _ _ _ _ _ _ _ _ _ _ _
      | exact colophonref11_add.mono _ _ _ _
      | exact LeO.none _
      | refine LeO.ite ?_ ?_
      | refine LeO.bind ?_ (fun _ => ?_)
    · intro y0 y1 y2 y3
      unfold colophonref11_four.l0
      repeat' first
      | (with_reducible exact ih0 _ _ _ _ _)
      | (with_reducible exact ih1 _ _ _ _)
      | (with_reducible exact ih2 _ _ _ _ _)
      | (with_reducible exact ih3 _ _ _ _ _ _ _ _ _ _ _)
      | (with_reducible exact ih4 _ _ _ _ _ _ _ _ _ _ _ _)
      | (with_reducible exact ih5 _ _ _ _ _ _ _ _ _ _ _ _ _)
      | (with_reducible exact colophonref11_add.mono _ _ _ _)
      | (with_reducible exact LeO.refl _)
      | (with_reducible exact LeO.none _)
      | (with_reducible refine LeO.ite ?_ ?_)
      | (with_reducible refine LeO.bind ?_ (fun _ => ?_))
      | exact ih0 _ _ _ _ _
      | exact ih1 _ _ _ _
      | exact ih2 _ _ _ _ _
      | exact ih3 _ _ _ _ _ _ _ _ _ _ _
      | exact ih4 _ _ _ _ _ _ _ _ _ _ _ _
      | exact ih5 _ _ _ _ _ _ _ _ _ _ _ _ _
      | exact colophonref11_add.mono _ _ _ _
      | exact LeO.none _
      | refine LeO.ite ?_ ?_
      | refine LeO.bind ?_ (fun _ => ?_)
    · intro y0 y1 y2 y3 y4
      unfold colophonref11_four.l1
      repeat' first
      | (with_reducible exact ih0 _ _ _ _ _)
      | (with_reducible exact ih1 _ _ _ _)
      | (with_reducible exact ih2 _ _ _ _ _)
      | (with_reducible exact ih3 _ _ _ _ _ _ _ _ _ _ _)
      | (with_reducible exact ih4 _ _ _ _ _ _ _ _ _ _ _ _)
      | (with_reducible exact ih5 _ _ _ _ _ _ _ _ _ _ _ _ _)
      | (with_reducible exact colophonref11_add.mono _ _ _ _)
      | (with_reducible exact LeO.refl _)
      | (with_reducible exact LeO.none _)
      | (with_reducible refine LeO.ite ?_ ?_)
      | (with_reducible refine LeO.bind ?_ (fun _ => ?_))
      | exact ih0 _ _ _ _ _
      | exact ih1 _ _ _ _
      | exact ih2 _ _ _ _ _
      | exact ih3 _ _ _ _ _ _ _ _ _ _ _
      | exact ih4 _ _ _ _ _ _ _ _ _ _ _ _
      | exact ih5 _ _ _ _ _ _ _ _ _ _ _ _ _
      | exact colophonref11_add.mono _ _ _ _
      | exact LeO.none _
      | refine LeO.ite ?_ ?_
      | refine LeO.bind ?_ (fun _ => ?_)
    · intro y0 y1 y2 y3 y4 y5 y6 y7 y8 y9 y10
      unfold colophonref11_four.l2
      repeat' first
      | (with_reducible exact ih0 _ _ _ _ _)
      | (with_reducible exact ih1 _ _ _ _)
      | (with_reducible exact ih2 _ _ _ _ _)
      | (with_reducible exact ih3 _ _ _ _ _ _ _ _ _ _ _)
      | (with_reducible exact ih4 _ _ _ _ _ _ _ _ _ _ _ _)
      | (with_reducible exact ih5 _ _ _ _ _ _ _ _ _ _ _ _ _)
      | (with_reducible exact colophonref11_add.mono _ _ _ _)
      | (with_reducible exact LeO.refl _)
      | (with_reducible exact LeO.none _)
      | (with_reducible refine LeO.ite ?_ ?_)
      | (with_reducible refine LeO.bind ?_ (fun _ => ?_))
      | exact ih0 _ _ _ _ _
      | exact ih1 _ _ _ _
      | exact ih2 _ _ _ _ _
      | exact ih3 _ _ _ _ _ _ _ _ _ _ _
      | exact ih4 _ _ _ _ _ _ _ _ _ _ _ _
      | exact ih5 _ _ _ _ _ _ _ _ _ _ _ _ _
      | exact colophonref11_add.mono _ _ _ _
      | exact LeO.none _
      | refine LeO.ite ?_ ?_
      | refine LeO.bind ?_ (fun _ => ?_)
    · intro y0 y1 y2 y3 y4 y5 y6 y7 y8 y9 y10 y11
      unfold colophonref11_four.j4
      repeat' first
      | (with_reducible exact ih0 _ _ _ _ _)
      | (with_reducible exact ih1 _ _ _ _)
      | (with_reducible exact ih2 _ _ _ _ _)
      | (with_reducible exact ih3 _ _ _ _ _ _ _ _ _ _ _)
      | (with_reducible exact ih4 _ _ _ _ _ _ _ _ _ _ _ _)
      | (with_reducible exact ih5 _ _ _ _ _ _ _ _ _ _ _ _ _)
      | (with_reducible exact colophonref11_add.mono _ _ _ _)
      | (with_reducible exact LeO.refl _)
      | (with_reducible exact LeO.none _)
      | (with_reducible refine LeO.ite ?_ ?_)
      | (with_reducible refine LeO.bind ?_ (fun _ => ?_))
      | exact ih0 _ _ _ _ _
      | exact ih1 _ _ _ _
      | exact ih2 _ _ _ _ _
      | exact ih3 _ _ _ _ _ _ _ _ _ _ _
      | exact ih4 _ _ _ _ _ _ _ _ _ _ _ _
      | exact ih5 _ _ _ _ _ _ _ _ _ _ _ _ _
      | exact colophonref11_add.mono _ _ _ _
      | exact LeO.none _
      | refine LeO.ite ?_ ?_
      | refine LeO.bind ?_ (fun _ => ?_)
    · intro y0 y1 y2 y3 y4 y5 y6 y7 y8 y9 y10 y11 y12
      unfold colophonref11_four.j5
      repeat' first
      | (with_reducible exact ih0 _ _ _ _ _)
      | (with_reducible exact ih1 _ _ _ _)
      | (with_reducible exact ih2 _ _ _ _ _)
      | (with_reducible exact ih3 _ _ _ _ _ _ _ _ _ _ _)
      | (with_reducible exact ih4 _ _ _ _ _ _ _ _ _ _ _ _)
      | (with_reducible exact ih5 _ _ _ _ _ _ _ _ _ _ _ _ _)
      | (with_reducible exact colophonref11_add.mono _ _ _ _)
      | (with_reducible exact LeO.refl _)
      | (with_reducible exact LeO.none _)
      | (with_reducible refine LeO.ite ?_ ?_)
      | (with_reducible refine LeO.bind ?_ (fun _ => ?_))
      | exact ih0 _ _ _ _ _
      | exact ih1 _ _ _ _
      | exact ih2 _ _ _ _ _
      | exact ih3 _ _ _ _ _ _ _ _ _ _ _
      | exact ih4 _ _ _ _ _ _ _ _ _ _ _ _
      | exact ih5 _ _ _ _ _ _ _ _ _ _ _ _ _
      | exact colophonref11_add.mono _ _ _ _
      | exact LeO.none _
      | refine LeO.ite ?_ ?_
      | refine LeO.bind ?_ (fun _ => ?_)
theorem colophonref11_four.mono : ∀ a0 a1 k, LeO (colophonref11_four.f k a0 a1) (colophonref11_four.f (k + 1) a0 a1) := by
  intro a0 a1 k
  obtain ⟨ih0, ih1, ih2, ih3, ih4, ih5⟩ := colophonref11_four.mono_l k
  unfold colophonref11_four.f
  repeat' first
      | (with_reducible exact ih0 _ _ _ _ _)
      | (with_reducible exact ih1 _ _ _ _)
      | (with_reducible exact ih2 _ _ _ _ _)
      | (with_reducible exact ih3 _ _ _ _ _ _ _ _ _ _ _)
      | (with_reducible exact ih4 _ _ _ _ _ _ _ _ _ _ _ _)
      | (with_reducible exact ih5 _ _ _ _ _ _ _ _ _ _ _ _ _)
      | (with_reducible exact colophonref11_add.mono _ _ _ _)
      | (with_reducible exact LeO.refl _)
      | (with_reducible exact LeO.none _)
      | (with_reducible refine LeO.ite ?_ ?_)
      | (with_reducible refine LeO.bind ?_ (fun _ => ?_))
      | exact ih0 _ _ _ _ _
      | exact ih1 _ _ _ _
      | exact ih2 _ _ _ _ _
      | exact ih3 _ _ _ _ _ _ _ _ _ _ _
      | exact ih4 _ _ _ _ _ _ _ _ _ _ _ _
      | exact ih5 _ _ _ _ _ _ _ _ _ _ _ _ _
      | exact colophonref11_add.mono _ _ _ _
      | exact LeO.none _
      | refine LeO.ite ?_ ?_
      | refine LeO.bind ?_ (fun _ => ?_)
set_option maxHeartbeats 8000000 in
set_option maxRecDepth 100000 in
theorem colophonref11_four.calls (k : Nat) (a0 : ByteArray) (a1 : Int) (r1 : List (S47)) (r2 : Bool) (w : World) (h : colophonref11_four.f k a0 a1 = some (r1, r2)) :
    Calls Try.prog 26 #[.string a0, .int .i64 a1] w fun e w' => ∃ v0_ : Value, e = .returned (.tuple #[v0_, .bool r2]) ∧ Kd.R k47 47 w' w.heap.size (fun _ => True) v0_ r1 ∧ Below w.heap.size w w' := by
  have HB := Aside0.mk (Below.refl w.heap.size w)
  have H : ((colophonref08_U2.f a0 6).bind fun t252 => ((colophonref08_U2.f a0 2).bind fun t253 => (if (a0.size : Int) < 16 then (colophonref11_four.j0 k a0 a1 (wrap64 (Int.tdiv t252 2)) t253 true) else (if 0 ≤ 2 then (if 2 ≤ (a0.size : Int) then (if (a0.extract 0 2).toList = ([0, 4] : List UInt8) then ((colophonref08_U2.f a0 6).bind fun t254 => (if (Int.tmod t254 2) = 0 then (if (wrap64 (Int.tdiv t252 2)) < 1 then (colophonref11_four.j0 k a0 a1 (wrap64 (Int.tdiv t252 2)) t253 true) else (if t253 < (wrap64 (16 + (wrap64 (8 * (wrap64 (Int.tdiv t252 2)))))) then (colophonref11_four.j0 k a0 a1 (wrap64 (Int.tdiv t252 2)) t253 true) else (colophonref11_four.j0 k a0 a1 (wrap64 (Int.tdiv t252 2)) t253 (decide (t253 > (a0.size : Int)))))) else (colophonref11_four.j0 k a0 a1 (wrap64 (Int.tdiv t252 2)) t253 true))) else (colophonref11_four.j0 k a0 a1 (wrap64 (Int.tdiv t252 2)) t253 true)) else (none)) else (none))))) = some (r1, r2) := h
  clear h
  replace H := Option.bind_eq_some_iff.mp H
  obtain ⟨t252, A30, H⟩ := H
  replace H : ((colophonref08_U2.f a0 2).bind fun t253 => (if (a0.size : Int) < 16 then (colophonref11_four.j0 k a0 a1 (wrap64 (Int.tdiv t252 2)) t253 true) else (if 0 ≤ 2 then (if 2 ≤ (a0.size : Int) then (if (a0.extract 0 2).toList = ([0, 4] : List UInt8) then ((colophonref08_U2.f a0 6).bind fun t254 => (if (Int.tmod t254 2) = 0 then (if (wrap64 (Int.tdiv t252 2)) < 1 then (colophonref11_four.j0 k a0 a1 (wrap64 (Int.tdiv t252 2)) t253 true) else (if t253 < (wrap64 (16 + (wrap64 (8 * (wrap64 (Int.tdiv t252 2)))))) then (colophonref11_four.j0 k a0 a1 (wrap64 (Int.tdiv t252 2)) t253 true) else (colophonref11_four.j0 k a0 a1 (wrap64 (Int.tdiv t252 2)) t253 (decide (t253 > (a0.size : Int)))))) else (colophonref11_four.j0 k a0 a1 (wrap64 (Int.tdiv t252 2)) t253 true))) else (colophonref11_four.j0 k a0 a1 (wrap64 (Int.tdiv t252 2)) t253 true)) else (none)) else (none)))) = some (r1, r2) := H
  have A3 := Aside0.mk A30
  clear A30
  replace H := Option.bind_eq_some_iff.mp H
  obtain ⟨t253, A40, H⟩ := H
  replace H : (if (a0.size : Int) < 16 then (colophonref11_four.j0 k a0 a1 (wrap64 (Int.tdiv t252 2)) t253 true) else (if 0 ≤ 2 then (if 2 ≤ (a0.size : Int) then (if (a0.extract 0 2).toList = ([0, 4] : List UInt8) then ((colophonref08_U2.f a0 6).bind fun t254 => (if (Int.tmod t254 2) = 0 then (if (wrap64 (Int.tdiv t252 2)) < 1 then (colophonref11_four.j0 k a0 a1 (wrap64 (Int.tdiv t252 2)) t253 true) else (if t253 < (wrap64 (16 + (wrap64 (8 * (wrap64 (Int.tdiv t252 2)))))) then (colophonref11_four.j0 k a0 a1 (wrap64 (Int.tdiv t252 2)) t253 true) else (colophonref11_four.j0 k a0 a1 (wrap64 (Int.tdiv t252 2)) t253 (decide (t253 > (a0.size : Int)))))) else (colophonref11_four.j0 k a0 a1 (wrap64 (Int.tdiv t252 2)) t253 true))) else (colophonref11_four.j0 k a0 a1 (wrap64 (Int.tdiv t252 2)) t253 true)) else (none)) else (none))) = some (r1, r2) := H
  have A4 := Aside0.mk A40
  clear A40
  have HC5 := Aside0.mk H
  clear H
  go_enter Try.func26, Try.ntmps26
  go_upto_region 3 with (first | ((with_reducible refine gate_callee (f := 23) rfl ?_); refine goesL_ (some 23) rfl rfl Try.func23 (by kernel_rfl) rfl #[.string a0, .int .i64 6] rfl (by (try simp only [List.map_toArray, List.map_cons, List.map_nil]); first | done | rfl | (simp only [List.length_drop, List.length_take]; rfl)) ?_; (with_reducible refine (colophonref08_U2.calls a0 6 t252 _ A3.out).mono ?_); rintro e w' ⟨rfl, ⟨nd, rfl⟩⟩; refine ⟨_, rfl, ?_⟩) | ((with_reducible refine gate_callee (f := 23) rfl ?_); refine goesL_ (some 26) rfl rfl Try.func23 (by kernel_rfl) rfl #[.string a0, .int .i64 2] rfl (by (try simp only [List.map_toArray, List.map_cons, List.map_nil]); first | done | rfl | (simp only [List.length_drop, List.length_take]; rfl)) ?_; (with_reducible refine (colophonref08_U2.calls a0 2 t253 _ A4.out).mono ?_); rintro e w' ⟨rfl, ⟨nd, rfl⟩⟩; refine ⟨_, rfl, ?_⟩))
  (try simp only [Act.put, List.setIfInBounds_toArray, List.set_cons_zero, List.set_cons_succ])
  go_cut [57] (fun v57 wc => ∃ (kq : Nat) (x57_4 : Bool), v57 = .bool x57_4 ∧ Aside0 (colophonref11_four.j0 kq a0 a1 (wrap64 (Int.tdiv t252 2)) t253 x57_4 = some (r1, r2)) ∧ Aside0 (kq ≤ k) ∧ Aside0 (Below w.heap.size w wc))
  case first =>
    have H := HC5.out
    clear HC5
    by_cases c6 : (a0.size : Int) < 16
    · rw [if_pos c6] at H
      have c6b0 : decide ((a0.size : Int) < 16) = true := decide_eq_true c6
      have c6b1 : decide (a0.size < 16) = true := decide_eq_true (by omega)
      clear c6
      (first | rw [c6b0] | (simp only [i64_w, i32_w]; rw [c6b0]) | skip)
      have H' := Aside0.mk H
      clear H
      go_wp2
      go_meet
      case rel => exact ⟨_, (true), (by first | rfl | (simp; done) | (simp [*]; done)), H', ⟨by first | omega | exact Nat.le_refl _⟩, ⟨by repeat (first | (with_reducible first | exact HB.out | apply below_alloc | apply pw_below_drewN | apply below_drew1) | exact HB.out)⟩⟩
    · rw [if_neg c6] at H
      have c6b0 : decide ((a0.size : Int) < 16) = false := decide_eq_false c6
      have c6b1 : decide (a0.size < 16) = false := decide_eq_false (by omega)
      clear c6
      (first | rw [c6b0] | (simp only [i64_w, i32_w]; rw [c6b0]) | skip)
      by_cases c7 : 0 ≤ 2
      · rw [if_pos c7] at H
        have c7b0 := eq_true c7
        have c7b1 : decide (0 ≤ 2) = true := decide_eq_true c7
        clear c7
        by_cases c8 : 2 ≤ (a0.size : Int)
        · rw [if_pos c8] at H
          have c8b0 := eq_true c8
          have c8b1 : decide (2 ≤ (a0.size : Int)) = true := decide_eq_true c8
          clear c8
          by_cases c9 : (a0.extract 0 2).toList = ([0, 4] : List UInt8)
          · rw [if_pos c9] at H
            have c9b0 : ((a0.extract 0 2).toList == ([0, 4] : List UInt8)) = true := beq_iff_eq.mpr c9
            have c9b1 : ((a0.extract 0 2).toList != ([0, 4] : List UInt8)) = false := bne_eq_false_iff_eq.mpr c9
            clear c9
            replace H := Option.bind_eq_some_iff.mp H
            obtain ⟨t254, A100, H⟩ := H
            replace H : (if (Int.tmod t254 2) = 0 then (if (wrap64 (Int.tdiv t252 2)) < 1 then (colophonref11_four.j0 k a0 a1 (wrap64 (Int.tdiv t252 2)) t253 true) else (if t253 < (wrap64 (16 + (wrap64 (8 * (wrap64 (Int.tdiv t252 2)))))) then (colophonref11_four.j0 k a0 a1 (wrap64 (Int.tdiv t252 2)) t253 true) else (colophonref11_four.j0 k a0 a1 (wrap64 (Int.tdiv t252 2)) t253 (decide (t253 > (a0.size : Int)))))) else (colophonref11_four.j0 k a0 a1 (wrap64 (Int.tdiv t252 2)) t253 true)) = some (r1, r2) := H
            have A10 := Aside0.mk A100
            clear A100
            by_cases c11 : (Int.tmod t254 2) = 0
            · rw [if_pos c11] at H
              have c11b0 : ((Int.tmod t254 2) == 0) = true := beq_iff_eq.mpr c11
              have c11b1 : ((Int.tmod t254 2) != 0) = false := bne_eq_false_iff_eq.mpr c11
              clear c11
              by_cases c12 : (wrap64 (Int.tdiv t252 2)) < 1
              · rw [if_pos c12] at H
                have c12b0 : decide ((wrap64 (Int.tdiv t252 2)) < 1) = true := decide_eq_true c12
                (try (have c12b0w := c12b0; ((first | rw [pw_wdiv _ _ (by omega) (by omega)] at c12b0w | rw [pw_wdiv' _ _ (by omega) (by omega)] at c12b0w | rw [Go.IntWalk.wrap64_in _ (by omega)] at c12b0w); repeat (first | rw [pw_wdiv _ _ (by omega) (by omega)] at c12b0w | rw [pw_wdiv' _ _ (by omega) (by omega)] at c12b0w | rw [Go.IntWalk.wrap64_in _ (by omega)] at c12b0w))))
                clear c12
                have H' := Aside0.mk H
                clear H
                go_wp2_with (first | (go_at_call 23; (with_reducible refine (colophonref08_U2.calls a0 6 t254 _ A10.out).mono ?_); rintro e w' ⟨rfl, ⟨nd, rfl⟩⟩))
                go_meet
                case rel => exact ⟨_, (true), (by first | rfl | (simp; done) | (simp [*]; done)), H', ⟨by first | omega | exact Nat.le_refl _⟩, ⟨by repeat (first | (with_reducible first | exact HB.out | apply below_alloc | apply pw_below_drewN | apply below_drew1) | exact HB.out)⟩⟩
              · rw [if_neg c12] at H
                have c12b0 : decide ((wrap64 (Int.tdiv t252 2)) < 1) = false := decide_eq_false c12
                (try (have c12b0w := c12b0; ((first | rw [pw_wdiv _ _ (by omega) (by omega)] at c12b0w | rw [pw_wdiv' _ _ (by omega) (by omega)] at c12b0w | rw [Go.IntWalk.wrap64_in _ (by omega)] at c12b0w); repeat (first | rw [pw_wdiv _ _ (by omega) (by omega)] at c12b0w | rw [pw_wdiv' _ _ (by omega) (by omega)] at c12b0w | rw [Go.IntWalk.wrap64_in _ (by omega)] at c12b0w))))
                clear c12
                by_cases c13 : t253 < (wrap64 (16 + (wrap64 (8 * (wrap64 (Int.tdiv t252 2))))))
                · rw [if_pos c13] at H
                  have c13b0 : decide (t253 < (wrap64 (16 + (wrap64 (8 * (wrap64 (Int.tdiv t252 2))))))) = true := decide_eq_true c13
                  (try (have c13b0w := c13b0; ((first | rw [pw_wdiv _ _ (by omega) (by omega)] at c13b0w | rw [pw_wdiv' _ _ (by omega) (by omega)] at c13b0w | rw [Go.IntWalk.wrap64_in _ (by omega)] at c13b0w); repeat (first | rw [pw_wdiv _ _ (by omega) (by omega)] at c13b0w | rw [pw_wdiv' _ _ (by omega) (by omega)] at c13b0w | rw [Go.IntWalk.wrap64_in _ (by omega)] at c13b0w))))
                  clear c13
                  have H' := Aside0.mk H
                  clear H
                  go_wp2_with (first | (go_at_call 23; (with_reducible refine (colophonref08_U2.calls a0 6 t254 _ A10.out).mono ?_); rintro e w' ⟨rfl, ⟨nd, rfl⟩⟩))
                  go_meet
                  case rel => exact ⟨_, (true), (by first | rfl | (simp; done) | (simp [*]; done)), H', ⟨by first | omega | exact Nat.le_refl _⟩, ⟨by repeat (first | (with_reducible first | exact HB.out | apply below_alloc | apply pw_below_drewN | apply below_drew1) | exact HB.out)⟩⟩
                · rw [if_neg c13] at H
                  have c13b0 : decide (t253 < (wrap64 (16 + (wrap64 (8 * (wrap64 (Int.tdiv t252 2))))))) = false := decide_eq_false c13
                  (try (have c13b0w := c13b0; ((first | rw [pw_wdiv _ _ (by omega) (by omega)] at c13b0w | rw [pw_wdiv' _ _ (by omega) (by omega)] at c13b0w | rw [Go.IntWalk.wrap64_in _ (by omega)] at c13b0w); repeat (first | rw [pw_wdiv _ _ (by omega) (by omega)] at c13b0w | rw [pw_wdiv' _ _ (by omega) (by omega)] at c13b0w | rw [Go.IntWalk.wrap64_in _ (by omega)] at c13b0w))))
                  clear c13
                  have H' := Aside0.mk H
                  clear H
                  go_wp2_with (first | (go_at_call 23; (with_reducible refine (colophonref08_U2.calls a0 6 t254 _ A10.out).mono ?_); rintro e w' ⟨rfl, ⟨nd, rfl⟩⟩))
                  go_meet
                  case rel => exact ⟨_, (decide (t253 > (a0.size : Int))), (by first | rfl | (simp; done) | (simp [*]; done)), H', ⟨by first | omega | exact Nat.le_refl _⟩, ⟨by repeat (first | (with_reducible first | exact HB.out | apply below_alloc | apply pw_below_drewN | apply below_drew1) | exact HB.out)⟩⟩
            · rw [if_neg c11] at H
              have c11b0 : ((Int.tmod t254 2) == 0) = false := beq_eq_false_iff_ne.mpr c11
              have c11b1 : ((Int.tmod t254 2) != 0) = true := bne_iff_ne.mpr c11
              have H' := Aside0.mk H
              clear H
              go_wp2_with (first | (go_at_call 23; (with_reducible refine (colophonref08_U2.calls a0 6 t254 _ A10.out).mono ?_); rintro e w' ⟨rfl, ⟨nd, rfl⟩⟩))
              go_meet
              case rel => exact ⟨_, (true), (by first | rfl | (simp; done) | (simp [*]; done)), H', ⟨by first | omega | exact Nat.le_refl _⟩, ⟨by repeat (first | (with_reducible first | exact HB.out | apply below_alloc | apply pw_below_drewN | apply below_drew1) | exact HB.out)⟩⟩
          · rw [if_neg c9] at H
            have c9b0 : ((a0.extract 0 2).toList == ([0, 4] : List UInt8)) = false := beq_eq_false_iff_ne.mpr c9
            have c9b1 : ((a0.extract 0 2).toList != ([0, 4] : List UInt8)) = true := bne_iff_ne.mpr c9
            have H' := Aside0.mk H
            clear H
            go_wp2
            go_meet
            case rel => exact ⟨_, (true), (by first | rfl | (simp; done) | (simp [*]; done)), H', ⟨by first | omega | exact Nat.le_refl _⟩, ⟨by repeat (first | (with_reducible first | exact HB.out | apply below_alloc | apply pw_below_drewN | apply below_drew1) | exact HB.out)⟩⟩
        · rw [if_neg c8] at H
          exact absurd H (by simp)
      · rw [if_neg c7] at H
        exact absurd H (by simp)
  case rest =>
    clear HC5
    try clear c1
    try clear c2
    try clear p2
    try clear c6
    try clear c6b0
    try clear c6b1
    try clear p6
    try clear c7
    try clear c7b0
    try clear c7b1
    try clear c8
    try clear c8b0
    try clear c8b1
    try clear c9
    try clear c9b0
    try clear c9b1
    try clear c11
    try clear c11b0
    try clear c11b1
    try clear c12
    try clear c12b0
    try clear c13
    try clear c13b0
    obtain ⟨kq, x57_4, rfl, HA, HJ4, HB⟩ := hcut
    cases kq with
    | zero => exact absurd HA.out (by simp [colophonref11_four.j0])
    | succ kj4 =>
      have H := HA.out
      clear HA
      simp only [colophonref11_four.j0] at H
      by_cases c14 : x57_4 = true
      · subst c14
        have H1 : (some (([] : List (S47)), false)) = some (r1, r2) := by rw [if_pos rfl] at H; exact H
        clear H
        have H := H1
        clear H1
        simp only [Option.some.injEq, Prod.mk.injEq] at H
        obtain ⟨rfl, rfl⟩ := H
        go_wp2
        go_ret2
        exact ⟨_, by first | rfl | (simp [errW_none, errW_some] <;> rfl) | (simp [*, errW_none, errW_some] <;> rfl) | (((first | rw [pw_wdiv _ _ (by omega) (by omega)] | rw [pw_wdiv' _ _ (by omega) (by omega)] | rw [Go.IntWalk.wrap64_in _ (by omega)]); repeat (first | rw [pw_wdiv _ _ (by omega) (by omega)] | rw [pw_wdiv' _ _ (by omega) (by omega)] | rw [Go.IntWalk.wrap64_in _ (by omega)])); rfl), by first | exact Kd.R_nil _ _ _ _ _ | exact Kd.N_nil _ _ _ _ _ | exact Kd.V_nil _ _ _ _ _ | exact Kd.Q_nil _ _ _ _ _ | exact Kd.S_nil _ _ _ _ _, by repeat (first | (with_reducible first | exact HB.out | apply below_alloc | apply pw_below_drewN | apply below_drew1) | exact HB.out)⟩
      · replace c14 := Bool.eq_false_iff.mpr c14
        subst c14
        have H1 : (if 0 ≤ t253 then (if t253 ≤ (a0.size : Int) then (colophonref11_four.l0 kj4 (a0.extract 0 (t253 : Int).toNat) a1 (wrap64 (Int.tdiv t252 2)) 0) else (none)) else (none)) = some (r1, r2) := by rw [if_neg (show ¬ (false = true) by decide)] at H; exact H
        clear H
        have H := H1
        clear H1
        by_cases c15 : 0 ≤ t253
        · rw [if_pos c15] at H
          have c15b0 := eq_true c15
          have c15b1 : decide (0 ≤ t253) = true := decide_eq_true c15
          clear c15
          by_cases c16 : t253 ≤ (a0.size : Int)
          · rw [if_pos c16] at H
            have c16b0 := eq_true c16
            have c16b1 : decide (t253 ≤ (a0.size : Int)) = true := decide_eq_true c16
            clear c16
            have H' := Aside0.mk H
            clear H
            go_wp2
            go_loopg [8] kj4 (fun kq v8 w' => ∃ (x8_2 : Int), v8 = .int .i64 x8_2 ∧ Aside0 (colophonref11_four.l0 kq (a0.extract 0 (t253 : Int).toNat) a1 (wrap64 (Int.tdiv t252 2)) x8_2 = some (r1, r2)) ∧ Aside0 (kq ≤ kj4) ∧ Aside0 (Below w.heap.size w w'))
            case atStart => exact ⟨(0), (by first | rfl | (simp; done) | (simp [*]; done)), H', ⟨Nat.le_refl _⟩, ⟨by repeat (first | (with_reducible first | exact HB.out | apply below_alloc | apply pw_below_drewN | apply below_drew1) | exact HB.out)⟩⟩
            case round =>
              clear H'
              try clear c1
              try clear c2
              try clear p2
              try clear c6
              try clear c6b0
              try clear c6b1
              try clear p6
              try clear c7
              try clear c7b0
              try clear c7b1
              try clear c8
              try clear c8b0
              try clear c8b1
              try clear c9
              try clear c9b0
              try clear c9b1
              try clear c11
              try clear c11b0
              try clear c11b1
              try clear c12
              try clear c12b0
              try clear c13
              try clear c13b0
              try clear c14
              try clear c15
              try clear c15b0
              try clear c15b1
              try clear c16
              try clear c16b0
              try clear c16b1
              try clear p2
              try clear p6
              obtain ⟨x8_2, rfl, HA, HK2, HB⟩ := hrel
              cases gk with
              | zero => exact absurd HA.out (by simp [colophonref11_four.l0])
              | succ k2 =>
                have H := HA.out
                clear HA
                simp only [colophonref11_four.l0] at H
                by_cases c17 : x8_2 < (wrap64 (Int.tdiv t252 2))
                · rw [if_pos c17] at H
                  have c17b0 : decide (x8_2 < (wrap64 (Int.tdiv t252 2))) = true := decide_eq_true c17
                  (try (have c17b0w := c17b0; ((first | rw [pw_wdiv _ _ (by omega) (by omega)] at c17b0w | rw [pw_wdiv' _ _ (by omega) (by omega)] at c17b0w | rw [Go.IntWalk.wrap64_in _ (by omega)] at c17b0w); repeat (first | rw [pw_wdiv _ _ (by omega) (by omega)] at c17b0w | rw [pw_wdiv' _ _ (by omega) (by omega)] at c17b0w | rw [Go.IntWalk.wrap64_in _ (by omega)] at c17b0w))))
                  clear c17
                  replace H := Option.bind_eq_some_iff.mp H
                  obtain ⟨t255, A180, H⟩ := H
                  replace H : ((colophonref08_U2.f (a0.extract 0 (t253 : Int).toNat) (wrap64 ((wrap64 (16 + (wrap64 (2 * (wrap64 (Int.tdiv t252 2)))))) + (wrap64 (2 * x8_2))))).bind fun t256 => (if t256 > t255 then (some (([] : List (S47)), false)) else (if x8_2 > 0 then ((colophonref08_U2.f (a0.extract 0 (t253 : Int).toNat) (wrap64 (12 + (wrap64 (2 * x8_2))))).bind fun t257 => (if t256 ≤ t257 then (some (([] : List (S47)), false)) else (if x8_2 = (wrap64 ((wrap64 (Int.tdiv t252 2)) - 1)) then (if t255 = 65535 then (colophonref11_four.l0 k2 (a0.extract 0 (t253 : Int).toNat) a1 (wrap64 (Int.tdiv t252 2)) (wrap64 (x8_2 + 1))) else (some (([] : List (S47)), false))) else (colophonref11_four.l0 k2 (a0.extract 0 (t253 : Int).toNat) a1 (wrap64 (Int.tdiv t252 2)) (wrap64 (x8_2 + 1)))))) else (if x8_2 = (wrap64 ((wrap64 (Int.tdiv t252 2)) - 1)) then (if t255 = 65535 then (colophonref11_four.l0 k2 (a0.extract 0 (t253 : Int).toNat) a1 (wrap64 (Int.tdiv t252 2)) (wrap64 (x8_2 + 1))) else (some (([] : List (S47)), false))) else (colophonref11_four.l0 k2 (a0.extract 0 (t253 : Int).toNat) a1 (wrap64 (Int.tdiv t252 2)) (wrap64 (x8_2 + 1))))))) = some (r1, r2) := H
                  have A18 := Aside0.mk A180
                  clear A180
                  replace H := Option.bind_eq_some_iff.mp H
                  obtain ⟨t256, A190, H⟩ := H
                  replace H : (if t256 > t255 then (some (([] : List (S47)), false)) else (if x8_2 > 0 then ((colophonref08_U2.f (a0.extract 0 (t253 : Int).toNat) (wrap64 (12 + (wrap64 (2 * x8_2))))).bind fun t257 => (if t256 ≤ t257 then (some (([] : List (S47)), false)) else (if x8_2 = (wrap64 ((wrap64 (Int.tdiv t252 2)) - 1)) then (if t255 = 65535 then (colophonref11_four.l0 k2 (a0.extract 0 (t253 : Int).toNat) a1 (wrap64 (Int.tdiv t252 2)) (wrap64 (x8_2 + 1))) else (some (([] : List (S47)), false))) else (colophonref11_four.l0 k2 (a0.extract 0 (t253 : Int).toNat) a1 (wrap64 (Int.tdiv t252 2)) (wrap64 (x8_2 + 1)))))) else (if x8_2 = (wrap64 ((wrap64 (Int.tdiv t252 2)) - 1)) then (if t255 = 65535 then (colophonref11_four.l0 k2 (a0.extract 0 (t253 : Int).toNat) a1 (wrap64 (Int.tdiv t252 2)) (wrap64 (x8_2 + 1))) else (some (([] : List (S47)), false))) else (colophonref11_four.l0 k2 (a0.extract 0 (t253 : Int).toNat) a1 (wrap64 (Int.tdiv t252 2)) (wrap64 (x8_2 + 1)))))) = some (r1, r2) := H
                  have A19 := Aside0.mk A190
                  clear A190
                  by_cases c20 : t256 > t255
                  · rw [if_pos c20] at H
                    have c20b0 : decide (t255 < t256) = true := decide_eq_true c20
                    clear c20
                    simp only [Option.some.injEq, Prod.mk.injEq] at H
                    obtain ⟨rfl, rfl⟩ := H
                    go_wp2_with (first | ((with_reducible refine gate_callee (f := 23) rfl ?_); refine goesL_ (some 70) rfl rfl Try.func23 (by kernel_rfl) rfl #[.string (a0.extract 0 (t253 : Int).toNat), .int .i64 (wrap64 (14 + (wrap64 (2 * x8_2))))] rfl (by (try simp only [List.map_toArray, List.map_cons, List.map_nil]); first | done | rfl | (simp only [List.length_drop, List.length_take]; rfl)) ?_; (with_reducible refine (colophonref08_U2.calls (a0.extract 0 (t253 : Int).toNat) (wrap64 (14 + (wrap64 (2 * x8_2)))) t255 _ A18.out).mono ?_); rintro e w' ⟨rfl, ⟨nd, rfl⟩⟩; refine ⟨_, rfl, ?_⟩) | ((with_reducible refine gate_callee (f := 23) rfl ?_); refine goesL_ (some 78) rfl rfl Try.func23 (by kernel_rfl) rfl #[.string (a0.extract 0 (t253 : Int).toNat), .int .i64 (wrap64 ((wrap64 (16 + (wrap64 (2 * (wrap64 (Int.tdiv t252 2)))))) + (wrap64 (2 * x8_2))))] rfl (by (try simp only [List.map_toArray, List.map_cons, List.map_nil]); first | done | rfl | (simp only [List.length_drop, List.length_take]; rfl)) ?_; (with_reducible refine (colophonref08_U2.calls (a0.extract 0 (t253 : Int).toNat) (wrap64 ((wrap64 (16 + (wrap64 (2 * (wrap64 (Int.tdiv t252 2)))))) + (wrap64 (2 * x8_2)))) t256 _ A19.out).mono ?_); rintro e w' ⟨rfl, ⟨nd, rfl⟩⟩; refine ⟨_, rfl, ?_⟩))
                    go_ret2
                    exact ⟨_, by first | rfl | (simp [errW_none, errW_some] <;> rfl) | (simp [*, errW_none, errW_some] <;> rfl) | (((first | rw [pw_wdiv _ _ (by omega) (by omega)] | rw [pw_wdiv' _ _ (by omega) (by omega)] | rw [Go.IntWalk.wrap64_in _ (by omega)]); repeat (first | rw [pw_wdiv _ _ (by omega) (by omega)] | rw [pw_wdiv' _ _ (by omega) (by omega)] | rw [Go.IntWalk.wrap64_in _ (by omega)])); rfl), by first | exact Kd.R_nil _ _ _ _ _ | exact Kd.N_nil _ _ _ _ _ | exact Kd.V_nil _ _ _ _ _ | exact Kd.Q_nil _ _ _ _ _ | exact Kd.S_nil _ _ _ _ _, by repeat (first | (with_reducible first | exact HB.out | apply below_alloc | apply pw_below_drewN | apply below_drew1) | exact HB.out)⟩
                  · rw [if_neg c20] at H
                    have c20b0 : decide (t255 < t256) = false := decide_eq_false c20
                    clear c20
                    by_cases c21 : x8_2 > 0
                    · rw [if_pos c21] at H
                      have c21b0 : decide (0 < x8_2) = true := decide_eq_true c21
                      clear c21
                      replace H := Option.bind_eq_some_iff.mp H
                      obtain ⟨t257, A220, H⟩ := H
                      replace H : (if t256 ≤ t257 then (some (([] : List (S47)), false)) else (if x8_2 = (wrap64 ((wrap64 (Int.tdiv t252 2)) - 1)) then (if t255 = 65535 then (colophonref11_four.l0 k2 (a0.extract 0 (t253 : Int).toNat) a1 (wrap64 (Int.tdiv t252 2)) (wrap64 (x8_2 + 1))) else (some (([] : List (S47)), false))) else (colophonref11_four.l0 k2 (a0.extract 0 (t253 : Int).toNat) a1 (wrap64 (Int.tdiv t252 2)) (wrap64 (x8_2 + 1))))) = some (r1, r2) := H
                      have A22 := Aside0.mk A220
                      clear A220
                      by_cases c23 : t256 ≤ t257
                      · rw [if_pos c23] at H
                        have c23b0 : decide (t256 ≤ t257) = true := decide_eq_true c23
                        clear c23
                        simp only [Option.some.injEq, Prod.mk.injEq] at H
                        obtain ⟨rfl, rfl⟩ := H
                        go_wp2_with (first | ((with_reducible refine gate_callee (f := 23) rfl ?_); refine goesL_ (some 70) rfl rfl Try.func23 (by kernel_rfl) rfl #[.string (a0.extract 0 (t253 : Int).toNat), .int .i64 (wrap64 (14 + (wrap64 (2 * x8_2))))] rfl (by (try simp only [List.map_toArray, List.map_cons, List.map_nil]); first | done | rfl | (simp only [List.length_drop, List.length_take]; rfl)) ?_; (with_reducible refine (colophonref08_U2.calls (a0.extract 0 (t253 : Int).toNat) (wrap64 (14 + (wrap64 (2 * x8_2)))) t255 _ A18.out).mono ?_); rintro e w' ⟨rfl, ⟨nd, rfl⟩⟩; refine ⟨_, rfl, ?_⟩) | ((with_reducible refine gate_callee (f := 23) rfl ?_); refine goesL_ (some 78) rfl rfl Try.func23 (by kernel_rfl) rfl #[.string (a0.extract 0 (t253 : Int).toNat), .int .i64 (wrap64 ((wrap64 (16 + (wrap64 (2 * (wrap64 (Int.tdiv t252 2)))))) + (wrap64 (2 * x8_2))))] rfl (by (try simp only [List.map_toArray, List.map_cons, List.map_nil]); first | done | rfl | (simp only [List.length_drop, List.length_take]; rfl)) ?_; (with_reducible refine (colophonref08_U2.calls (a0.extract 0 (t253 : Int).toNat) (wrap64 ((wrap64 (16 + (wrap64 (2 * (wrap64 (Int.tdiv t252 2)))))) + (wrap64 (2 * x8_2)))) t256 _ A19.out).mono ?_); rintro e w' ⟨rfl, ⟨nd, rfl⟩⟩; refine ⟨_, rfl, ?_⟩) | (go_at_call 23; (with_reducible refine (colophonref08_U2.calls (a0.extract 0 (t253 : Int).toNat) (wrap64 (12 + (wrap64 (2 * x8_2)))) t257 _ A22.out).mono ?_); rintro e w' ⟨rfl, ⟨nd, rfl⟩⟩))
                        go_ret2
                        exact ⟨_, by first | rfl | (simp [errW_none, errW_some] <;> rfl) | (simp [*, errW_none, errW_some] <;> rfl) | (((first | rw [pw_wdiv _ _ (by omega) (by omega)] | rw [pw_wdiv' _ _ (by omega) (by omega)] | rw [Go.IntWalk.wrap64_in _ (by omega)]); repeat (first | rw [pw_wdiv _ _ (by omega) (by omega)] | rw [pw_wdiv' _ _ (by omega) (by omega)] | rw [Go.IntWalk.wrap64_in _ (by omega)])); rfl), by first | exact Kd.R_nil _ _ _ _ _ | exact Kd.N_nil _ _ _ _ _ | exact Kd.V_nil _ _ _ _ _ | exact Kd.Q_nil _ _ _ _ _ | exact Kd.S_nil _ _ _ _ _, by repeat (first | (with_reducible first | exact HB.out | apply below_alloc | apply pw_below_drewN | apply below_drew1) | exact HB.out)⟩
                      · rw [if_neg c23] at H
                        have c23b0 : decide (t256 ≤ t257) = false := decide_eq_false c23
                        clear c23
                        by_cases c24 : x8_2 = (wrap64 ((wrap64 (Int.tdiv t252 2)) - 1))
                        · rw [if_pos c24] at H
                          have c24b0 : (x8_2 == (wrap64 ((wrap64 (Int.tdiv t252 2)) - 1))) = true := beq_iff_eq.mpr c24
                          (try (have c24b0w := c24b0; ((first | rw [pw_wdiv _ _ (by omega) (by omega)] at c24b0w | rw [pw_wdiv' _ _ (by omega) (by omega)] at c24b0w | rw [Go.IntWalk.wrap64_in _ (by omega)] at c24b0w); repeat (first | rw [pw_wdiv _ _ (by omega) (by omega)] at c24b0w | rw [pw_wdiv' _ _ (by omega) (by omega)] at c24b0w | rw [Go.IntWalk.wrap64_in _ (by omega)] at c24b0w))))
                          have c24b1 : (x8_2 != (wrap64 ((wrap64 (Int.tdiv t252 2)) - 1))) = false := bne_eq_false_iff_eq.mpr c24
                          (try (have c24b1w := c24b1; ((first | rw [pw_wdiv _ _ (by omega) (by omega)] at c24b1w | rw [pw_wdiv' _ _ (by omega) (by omega)] at c24b1w | rw [Go.IntWalk.wrap64_in _ (by omega)] at c24b1w); repeat (first | rw [pw_wdiv _ _ (by omega) (by omega)] at c24b1w | rw [pw_wdiv' _ _ (by omega) (by omega)] at c24b1w | rw [Go.IntWalk.wrap64_in _ (by omega)] at c24b1w))))
                          clear c24
                          by_cases c25 : t255 = 65535
                          · rw [if_pos c25] at H
                            have c25b0 : (t255 == 65535) = true := beq_iff_eq.mpr c25
                            have c25b1 : (t255 != 65535) = false := bne_eq_false_iff_eq.mpr c25
                            clear c25
                            have H' := Aside0.mk H
                            clear H
                            go_wp2_with (first | ((with_reducible refine gate_callee (f := 23) rfl ?_); refine goesL_ (some 70) rfl rfl Try.func23 (by kernel_rfl) rfl #[.string (a0.extract 0 (t253 : Int).toNat), .int .i64 (wrap64 (14 + (wrap64 (2 * x8_2))))] rfl (by (try simp only [List.map_toArray, List.map_cons, List.map_nil]); first | done | rfl | (simp only [List.length_drop, List.length_take]; rfl)) ?_; (with_reducible refine (colophonref08_U2.calls (a0.extract 0 (t253 : Int).toNat) (wrap64 (14 + (wrap64 (2 * x8_2)))) t255 _ A18.out).mono ?_); rintro e w' ⟨rfl, ⟨nd, rfl⟩⟩; refine ⟨_, rfl, ?_⟩) | ((with_reducible refine gate_callee (f := 23) rfl ?_); refine goesL_ (some 78) rfl rfl Try.func23 (by kernel_rfl) rfl #[.string (a0.extract 0 (t253 : Int).toNat), .int .i64 (wrap64 ((wrap64 (16 + (wrap64 (2 * (wrap64 (Int.tdiv t252 2)))))) + (wrap64 (2 * x8_2))))] rfl (by (try simp only [List.map_toArray, List.map_cons, List.map_nil]); first | done | rfl | (simp only [List.length_drop, List.length_take]; rfl)) ?_; (with_reducible refine (colophonref08_U2.calls (a0.extract 0 (t253 : Int).toNat) (wrap64 ((wrap64 (16 + (wrap64 (2 * (wrap64 (Int.tdiv t252 2)))))) + (wrap64 (2 * x8_2)))) t256 _ A19.out).mono ?_); rintro e w' ⟨rfl, ⟨nd, rfl⟩⟩; refine ⟨_, rfl, ?_⟩) | (go_at_call 23; (with_reducible refine (colophonref08_U2.calls (a0.extract 0 (t253 : Int).toNat) (wrap64 (12 + (wrap64 (2 * x8_2)))) t257 _ A22.out).mono ?_); rintro e w' ⟨rfl, ⟨nd, rfl⟩⟩))
                            go_roundg k2
                            case measure => have := HJ4.out; have := HK2.out; omega
                            case rel => exact ⟨(wrap64 (x8_2 + 1)), (by first | rfl | (simp; done) | (simp [*]; done)), H', ⟨by have := HJ4.out; have := HK2.out; omega⟩, ⟨by repeat (first | (with_reducible first | exact HB.out | apply below_alloc | apply pw_below_drewN | apply below_drew1) | exact HB.out)⟩⟩
                          · rw [if_neg c25] at H
                            have c25b0 : (t255 == 65535) = false := beq_eq_false_iff_ne.mpr c25
                            have c25b1 : (t255 != 65535) = true := bne_iff_ne.mpr c25
                            simp only [Option.some.injEq, Prod.mk.injEq] at H
                            obtain ⟨rfl, rfl⟩ := H
                            go_wp2_with (first | ((with_reducible refine gate_callee (f := 23) rfl ?_); refine goesL_ (some 70) rfl rfl Try.func23 (by kernel_rfl) rfl #[.string (a0.extract 0 (t253 : Int).toNat), .int .i64 (wrap64 (14 + (wrap64 (2 * x8_2))))] rfl (by (try simp only [List.map_toArray, List.map_cons, List.map_nil]); first | done | rfl | (simp only [List.length_drop, List.length_take]; rfl)) ?_; (with_reducible refine (colophonref08_U2.calls (a0.extract 0 (t253 : Int).toNat) (wrap64 (14 + (wrap64 (2 * x8_2)))) t255 _ A18.out).mono ?_); rintro e w' ⟨rfl, ⟨nd, rfl⟩⟩; refine ⟨_, rfl, ?_⟩) | ((with_reducible refine gate_callee (f := 23) rfl ?_); refine goesL_ (some 78) rfl rfl Try.func23 (by kernel_rfl) rfl #[.string (a0.extract 0 (t253 : Int).toNat), .int .i64 (wrap64 ((wrap64 (16 + (wrap64 (2 * (wrap64 (Int.tdiv t252 2)))))) + (wrap64 (2 * x8_2))))] rfl (by (try simp only [List.map_toArray, List.map_cons, List.map_nil]); first | done | rfl | (simp only [List.length_drop, List.length_take]; rfl)) ?_; (with_reducible refine (colophonref08_U2.calls (a0.extract 0 (t253 : Int).toNat) (wrap64 ((wrap64 (16 + (wrap64 (2 * (wrap64 (Int.tdiv t252 2)))))) + (wrap64 (2 * x8_2)))) t256 _ A19.out).mono ?_); rintro e w' ⟨rfl, ⟨nd, rfl⟩⟩; refine ⟨_, rfl, ?_⟩) | (go_at_call 23; (with_reducible refine (colophonref08_U2.calls (a0.extract 0 (t253 : Int).toNat) (wrap64 (12 + (wrap64 (2 * x8_2)))) t257 _ A22.out).mono ?_); rintro e w' ⟨rfl, ⟨nd, rfl⟩⟩))
                            go_ret2
                            exact ⟨_, by first | rfl | (simp [errW_none, errW_some] <;> rfl) | (simp [*, errW_none, errW_some] <;> rfl) | (((first | rw [pw_wdiv _ _ (by omega) (by omega)] | rw [pw_wdiv' _ _ (by omega) (by omega)] | rw [Go.IntWalk.wrap64_in _ (by omega)]); repeat (first | rw [pw_wdiv _ _ (by omega) (by omega)] | rw [pw_wdiv' _ _ (by omega) (by omega)] | rw [Go.IntWalk.wrap64_in _ (by omega)])); rfl), by first | exact Kd.R_nil _ _ _ _ _ | exact Kd.N_nil _ _ _ _ _ | exact Kd.V_nil _ _ _ _ _ | exact Kd.Q_nil _ _ _ _ _ | exact Kd.S_nil _ _ _ _ _, by repeat (first | (with_reducible first | exact HB.out | apply below_alloc | apply pw_below_drewN | apply below_drew1) | exact HB.out)⟩
                        · rw [if_neg c24] at H
                          have c24b0 : (x8_2 == (wrap64 ((wrap64 (Int.tdiv t252 2)) - 1))) = false := beq_eq_false_iff_ne.mpr c24
                          (try (have c24b0w := c24b0; ((first | rw [pw_wdiv _ _ (by omega) (by omega)] at c24b0w | rw [pw_wdiv' _ _ (by omega) (by omega)] at c24b0w | rw [Go.IntWalk.wrap64_in _ (by omega)] at c24b0w); repeat (first | rw [pw_wdiv _ _ (by omega) (by omega)] at c24b0w | rw [pw_wdiv' _ _ (by omega) (by omega)] at c24b0w | rw [Go.IntWalk.wrap64_in _ (by omega)] at c24b0w))))
                          have c24b1 : (x8_2 != (wrap64 ((wrap64 (Int.tdiv t252 2)) - 1))) = true := bne_iff_ne.mpr c24
                          (try (have c24b1w := c24b1; ((first | rw [pw_wdiv _ _ (by omega) (by omega)] at c24b1w | rw [pw_wdiv' _ _ (by omega) (by omega)] at c24b1w | rw [Go.IntWalk.wrap64_in _ (by omega)] at c24b1w); repeat (first | rw [pw_wdiv _ _ (by omega) (by omega)] at c24b1w | rw [pw_wdiv' _ _ (by omega) (by omega)] at c24b1w | rw [Go.IntWalk.wrap64_in _ (by omega)] at c24b1w))))
                          have H' := Aside0.mk H
                          clear H
                          go_wp2_with (first | ((with_reducible refine gate_callee (f := 23) rfl ?_); refine goesL_ (some 70) rfl rfl Try.func23 (by kernel_rfl) rfl #[.string (a0.extract 0 (t253 : Int).toNat), .int .i64 (wrap64 (14 + (wrap64 (2 * x8_2))))] rfl (by (try simp only [List.map_toArray, List.map_cons, List.map_nil]); first | done | rfl | (simp only [List.length_drop, List.length_take]; rfl)) ?_; (with_reducible refine (colophonref08_U2.calls (a0.extract 0 (t253 : Int).toNat) (wrap64 (14 + (wrap64 (2 * x8_2)))) t255 _ A18.out).mono ?_); rintro e w' ⟨rfl, ⟨nd, rfl⟩⟩; refine ⟨_, rfl, ?_⟩) | ((with_reducible refine gate_callee (f := 23) rfl ?_); refine goesL_ (some 78) rfl rfl Try.func23 (by kernel_rfl) rfl #[.string (a0.extract 0 (t253 : Int).toNat), .int .i64 (wrap64 ((wrap64 (16 + (wrap64 (2 * (wrap64 (Int.tdiv t252 2)))))) + (wrap64 (2 * x8_2))))] rfl (by (try simp only [List.map_toArray, List.map_cons, List.map_nil]); first | done | rfl | (simp only [List.length_drop, List.length_take]; rfl)) ?_; (with_reducible refine (colophonref08_U2.calls (a0.extract 0 (t253 : Int).toNat) (wrap64 ((wrap64 (16 + (wrap64 (2 * (wrap64 (Int.tdiv t252 2)))))) + (wrap64 (2 * x8_2)))) t256 _ A19.out).mono ?_); rintro e w' ⟨rfl, ⟨nd, rfl⟩⟩; refine ⟨_, rfl, ?_⟩) | (go_at_call 23; (with_reducible refine (colophonref08_U2.calls (a0.extract 0 (t253 : Int).toNat) (wrap64 (12 + (wrap64 (2 * x8_2)))) t257 _ A22.out).mono ?_); rintro e w' ⟨rfl, ⟨nd, rfl⟩⟩))
                          go_roundg k2
                          case measure => have := HJ4.out; have := HK2.out; omega
                          case rel => exact ⟨(wrap64 (x8_2 + 1)), (by first | rfl | (simp; done) | (simp [*]; done)), H', ⟨by have := HJ4.out; have := HK2.out; omega⟩, ⟨by repeat (first | (with_reducible first | exact HB.out | apply below_alloc | apply pw_below_drewN | apply below_drew1) | exact HB.out)⟩⟩
                    · rw [if_neg c21] at H
                      have c21b0 : decide (0 < x8_2) = false := decide_eq_false c21
                      clear c21
                      by_cases c26 : x8_2 = (wrap64 ((wrap64 (Int.tdiv t252 2)) - 1))
                      · rw [if_pos c26] at H
                        have c26b0 : (x8_2 == (wrap64 ((wrap64 (Int.tdiv t252 2)) - 1))) = true := beq_iff_eq.mpr c26
                        (try (have c26b0w := c26b0; ((first | rw [pw_wdiv _ _ (by omega) (by omega)] at c26b0w | rw [pw_wdiv' _ _ (by omega) (by omega)] at c26b0w | rw [Go.IntWalk.wrap64_in _ (by omega)] at c26b0w); repeat (first | rw [pw_wdiv _ _ (by omega) (by omega)] at c26b0w | rw [pw_wdiv' _ _ (by omega) (by omega)] at c26b0w | rw [Go.IntWalk.wrap64_in _ (by omega)] at c26b0w))))
                        have c26b1 : (x8_2 != (wrap64 ((wrap64 (Int.tdiv t252 2)) - 1))) = false := bne_eq_false_iff_eq.mpr c26
                        (try (have c26b1w := c26b1; ((first | rw [pw_wdiv _ _ (by omega) (by omega)] at c26b1w | rw [pw_wdiv' _ _ (by omega) (by omega)] at c26b1w | rw [Go.IntWalk.wrap64_in _ (by omega)] at c26b1w); repeat (first | rw [pw_wdiv _ _ (by omega) (by omega)] at c26b1w | rw [pw_wdiv' _ _ (by omega) (by omega)] at c26b1w | rw [Go.IntWalk.wrap64_in _ (by omega)] at c26b1w))))
                        clear c26
                        by_cases c27 : t255 = 65535
                        · rw [if_pos c27] at H
                          have c27b0 : (t255 == 65535) = true := beq_iff_eq.mpr c27
                          have c27b1 : (t255 != 65535) = false := bne_eq_false_iff_eq.mpr c27
                          clear c27
                          have H' := Aside0.mk H
                          clear H
                          go_wp2_with (first | ((with_reducible refine gate_callee (f := 23) rfl ?_); refine goesL_ (some 70) rfl rfl Try.func23 (by kernel_rfl) rfl #[.string (a0.extract 0 (t253 : Int).toNat), .int .i64 (wrap64 (14 + (wrap64 (2 * x8_2))))] rfl (by (try simp only [List.map_toArray, List.map_cons, List.map_nil]); first | done | rfl | (simp only [List.length_drop, List.length_take]; rfl)) ?_; (with_reducible refine (colophonref08_U2.calls (a0.extract 0 (t253 : Int).toNat) (wrap64 (14 + (wrap64 (2 * x8_2)))) t255 _ A18.out).mono ?_); rintro e w' ⟨rfl, ⟨nd, rfl⟩⟩; refine ⟨_, rfl, ?_⟩) | ((with_reducible refine gate_callee (f := 23) rfl ?_); refine goesL_ (some 78) rfl rfl Try.func23 (by kernel_rfl) rfl #[.string (a0.extract 0 (t253 : Int).toNat), .int .i64 (wrap64 ((wrap64 (16 + (wrap64 (2 * (wrap64 (Int.tdiv t252 2)))))) + (wrap64 (2 * x8_2))))] rfl (by (try simp only [List.map_toArray, List.map_cons, List.map_nil]); first | done | rfl | (simp only [List.length_drop, List.length_take]; rfl)) ?_; (with_reducible refine (colophonref08_U2.calls (a0.extract 0 (t253 : Int).toNat) (wrap64 ((wrap64 (16 + (wrap64 (2 * (wrap64 (Int.tdiv t252 2)))))) + (wrap64 (2 * x8_2)))) t256 _ A19.out).mono ?_); rintro e w' ⟨rfl, ⟨nd, rfl⟩⟩; refine ⟨_, rfl, ?_⟩))
                          go_roundg k2
                          case measure => have := HJ4.out; have := HK2.out; omega
                          case rel => exact ⟨(wrap64 (x8_2 + 1)), (by first | rfl | (simp; done) | (simp [*]; done)), H', ⟨by have := HJ4.out; have := HK2.out; omega⟩, ⟨by repeat (first | (with_reducible first | exact HB.out | apply below_alloc | apply pw_below_drewN | apply below_drew1) | exact HB.out)⟩⟩
                        · rw [if_neg c27] at H
                          have c27b0 : (t255 == 65535) = false := beq_eq_false_iff_ne.mpr c27
                          have c27b1 : (t255 != 65535) = true := bne_iff_ne.mpr c27
                          simp only [Option.some.injEq, Prod.mk.injEq] at H
                          obtain ⟨rfl, rfl⟩ := H
                          go_wp2_with (first | ((with_reducible refine gate_callee (f := 23) rfl ?_); refine goesL_ (some 70) rfl rfl Try.func23 (by kernel_rfl) rfl #[.string (a0.extract 0 (t253 : Int).toNat), .int .i64 (wrap64 (14 + (wrap64 (2 * x8_2))))] rfl (by (try simp only [List.map_toArray, List.map_cons, List.map_nil]); first | done | rfl | (simp only [List.length_drop, List.length_take]; rfl)) ?_; (with_reducible refine (colophonref08_U2.calls (a0.extract 0 (t253 : Int).toNat) (wrap64 (14 + (wrap64 (2 * x8_2)))) t255 _ A18.out).mono ?_); rintro e w' ⟨rfl, ⟨nd, rfl⟩⟩; refine ⟨_, rfl, ?_⟩) | ((with_reducible refine gate_callee (f := 23) rfl ?_); refine goesL_ (some 78) rfl rfl Try.func23 (by kernel_rfl) rfl #[.string (a0.extract 0 (t253 : Int).toNat), .int .i64 (wrap64 ((wrap64 (16 + (wrap64 (2 * (wrap64 (Int.tdiv t252 2)))))) + (wrap64 (2 * x8_2))))] rfl (by (try simp only [List.map_toArray, List.map_cons, List.map_nil]); first | done | rfl | (simp only [List.length_drop, List.length_take]; rfl)) ?_; (with_reducible refine (colophonref08_U2.calls (a0.extract 0 (t253 : Int).toNat) (wrap64 ((wrap64 (16 + (wrap64 (2 * (wrap64 (Int.tdiv t252 2)))))) + (wrap64 (2 * x8_2)))) t256 _ A19.out).mono ?_); rintro e w' ⟨rfl, ⟨nd, rfl⟩⟩; refine ⟨_, rfl, ?_⟩))
                          go_ret2
                          exact ⟨_, by first | rfl | (simp [errW_none, errW_some] <;> rfl) | (simp [*, errW_none, errW_some] <;> rfl) | (((first | rw [pw_wdiv _ _ (by omega) (by omega)] | rw [pw_wdiv' _ _ (by omega) (by omega)] | rw [Go.IntWalk.wrap64_in _ (by omega)]); repeat (first | rw [pw_wdiv _ _ (by omega) (by omega)] | rw [pw_wdiv' _ _ (by omega) (by omega)] | rw [Go.IntWalk.wrap64_in _ (by omega)])); rfl), by first | exact Kd.R_nil _ _ _ _ _ | exact Kd.N_nil _ _ _ _ _ | exact Kd.V_nil _ _ _ _ _ | exact Kd.Q_nil _ _ _ _ _ | exact Kd.S_nil _ _ _ _ _, by repeat (first | (with_reducible first | exact HB.out | apply below_alloc | apply pw_below_drewN | apply below_drew1) | exact HB.out)⟩
                      · rw [if_neg c26] at H
                        have c26b0 : (x8_2 == (wrap64 ((wrap64 (Int.tdiv t252 2)) - 1))) = false := beq_eq_false_iff_ne.mpr c26
                        (try (have c26b0w := c26b0; ((first | rw [pw_wdiv _ _ (by omega) (by omega)] at c26b0w | rw [pw_wdiv' _ _ (by omega) (by omega)] at c26b0w | rw [Go.IntWalk.wrap64_in _ (by omega)] at c26b0w); repeat (first | rw [pw_wdiv _ _ (by omega) (by omega)] at c26b0w | rw [pw_wdiv' _ _ (by omega) (by omega)] at c26b0w | rw [Go.IntWalk.wrap64_in _ (by omega)] at c26b0w))))
                        have c26b1 : (x8_2 != (wrap64 ((wrap64 (Int.tdiv t252 2)) - 1))) = true := bne_iff_ne.mpr c26
                        (try (have c26b1w := c26b1; ((first | rw [pw_wdiv _ _ (by omega) (by omega)] at c26b1w | rw [pw_wdiv' _ _ (by omega) (by omega)] at c26b1w | rw [Go.IntWalk.wrap64_in _ (by omega)] at c26b1w); repeat (first | rw [pw_wdiv _ _ (by omega) (by omega)] at c26b1w | rw [pw_wdiv' _ _ (by omega) (by omega)] at c26b1w | rw [Go.IntWalk.wrap64_in _ (by omega)] at c26b1w))))
                        have H' := Aside0.mk H
                        clear H
                        go_wp2_with (first | ((with_reducible refine gate_callee (f := 23) rfl ?_); refine goesL_ (some 70) rfl rfl Try.func23 (by kernel_rfl) rfl #[.string (a0.extract 0 (t253 : Int).toNat), .int .i64 (wrap64 (14 + (wrap64 (2 * x8_2))))] rfl (by (try simp only [List.map_toArray, List.map_cons, List.map_nil]); first | done | rfl | (simp only [List.length_drop, List.length_take]; rfl)) ?_; (with_reducible refine (colophonref08_U2.calls (a0.extract 0 (t253 : Int).toNat) (wrap64 (14 + (wrap64 (2 * x8_2)))) t255 _ A18.out).mono ?_); rintro e w' ⟨rfl, ⟨nd, rfl⟩⟩; refine ⟨_, rfl, ?_⟩) | ((with_reducible refine gate_callee (f := 23) rfl ?_); refine goesL_ (some 78) rfl rfl Try.func23 (by kernel_rfl) rfl #[.string (a0.extract 0 (t253 : Int).toNat), .int .i64 (wrap64 ((wrap64 (16 + (wrap64 (2 * (wrap64 (Int.tdiv t252 2)))))) + (wrap64 (2 * x8_2))))] rfl (by (try simp only [List.map_toArray, List.map_cons, List.map_nil]); first | done | rfl | (simp only [List.length_drop, List.length_take]; rfl)) ?_; (with_reducible refine (colophonref08_U2.calls (a0.extract 0 (t253 : Int).toNat) (wrap64 ((wrap64 (16 + (wrap64 (2 * (wrap64 (Int.tdiv t252 2)))))) + (wrap64 (2 * x8_2)))) t256 _ A19.out).mono ?_); rintro e w' ⟨rfl, ⟨nd, rfl⟩⟩; refine ⟨_, rfl, ?_⟩))
                        go_roundg k2
                        case measure => have := HJ4.out; have := HK2.out; omega
                        case rel => exact ⟨(wrap64 (x8_2 + 1)), (by first | rfl | (simp; done) | (simp [*]; done)), H', ⟨by have := HJ4.out; have := HK2.out; omega⟩, ⟨by repeat (first | (with_reducible first | exact HB.out | apply below_alloc | apply pw_below_drewN | apply below_drew1) | exact HB.out)⟩⟩
                · rw [if_neg c17] at H
                  have c17b0 : decide (x8_2 < (wrap64 (Int.tdiv t252 2))) = false := decide_eq_false c17
                  (try (have c17b0w := c17b0; ((first | rw [pw_wdiv _ _ (by omega) (by omega)] at c17b0w | rw [pw_wdiv' _ _ (by omega) (by omega)] at c17b0w | rw [Go.IntWalk.wrap64_in _ (by omega)] at c17b0w); repeat (first | rw [pw_wdiv _ _ (by omega) (by omega)] at c17b0w | rw [pw_wdiv' _ _ (by omega) (by omega)] at c17b0w | rw [Go.IntWalk.wrap64_in _ (by omega)] at c17b0w))))
                  clear c17
                  have H' := Aside0.mk H
                  clear H
                  go_wp2
                  go_loopg [11, 12] k2 (fun kq v11 v12 w' => ∃ (x11_3 : List (S47)) (x12_3 : Int), v12 = .int .i64 x12_3 ∧ Aside0 (colophonref11_four.l1 kq (a0.extract 0 (t253 : Int).toNat) a1 (wrap64 (Int.tdiv t252 2)) x11_3 x12_3 = some (r1, r2)) ∧ Aside0 (kq ≤ k2) ∧ Aside0 (Kd.R k47 47 w' w.heap.size (fun _ => True) v11 x11_3) ∧ Aside0 (Below w.heap.size w w'))
                  case atStart => exact ⟨(([] : List (S47))), (0), (by first | rfl | (simp; done) | (simp [*]; done)), H', ⟨Nat.le_refl _⟩, ⟨by first | exact Kd.R_nil _ _ _ _ _ | exact Kd.N_nil _ _ _ _ _ | exact Kd.V_nil _ _ _ _ _ | exact Kd.Q_nil _ _ _ _ _ | exact Kd.S_nil _ _ _ _ _⟩, ⟨by repeat (first | (with_reducible first | exact HB.out | apply below_alloc | apply pw_below_drewN | apply below_drew1) | exact HB.out)⟩⟩
                  case round =>
                    clear H'
                    try clear c1
                    try clear c2
                    try clear p2
                    try clear c6
                    try clear c6b0
                    try clear c6b1
                    try clear p6
                    try clear c7
                    try clear c7b0
                    try clear c7b1
                    try clear c8
                    try clear c8b0
                    try clear c8b1
                    try clear c9
                    try clear c9b0
                    try clear c9b1
                    try clear c11
                    try clear c11b0
                    try clear c11b1
                    try clear c12
                    try clear c12b0
                    try clear c13
                    try clear c13b0
                    try clear c14
                    try clear c15
                    try clear c15b0
                    try clear c15b1
                    try clear c16
                    try clear c16b0
                    try clear c16b1
                    try clear c17
                    try clear c17b0
                    try clear c20
                    try clear c20b0
                    try clear c21
                    try clear c21b0
                    try clear c23
                    try clear c23b0
                    try clear c24
                    try clear c24b0
                    try clear c24b1
                    try clear c25
                    try clear c25b0
                    try clear c25b1
                    try clear c26
                    try clear c26b0
                    try clear c26b1
                    try clear c27
                    try clear c27b0
                    try clear c27b1
                    try clear p2
                    try clear p6
                    obtain ⟨x11_3, x12_3, rfl, HA, HK3, HO_11, HB⟩ := hrel
                    cases gk with
                    | zero => exact absurd HA.out (by simp [colophonref11_four.l1])
                    | succ k3 =>
                      have H := HA.out
                      clear HA
                      simp only [colophonref11_four.l1] at H
                      by_cases c28 : x12_3 < (wrap64 (Int.tdiv t252 2))
                      · rw [if_pos c28] at H
                        have c28b0 : decide (x12_3 < (wrap64 (Int.tdiv t252 2))) = true := decide_eq_true c28
                        (try (have c28b0w := c28b0; ((first | rw [pw_wdiv _ _ (by omega) (by omega)] at c28b0w | rw [pw_wdiv' _ _ (by omega) (by omega)] at c28b0w | rw [Go.IntWalk.wrap64_in _ (by omega)] at c28b0w); repeat (first | rw [pw_wdiv _ _ (by omega) (by omega)] at c28b0w | rw [pw_wdiv' _ _ (by omega) (by omega)] at c28b0w | rw [Go.IntWalk.wrap64_in _ (by omega)] at c28b0w))))
                        clear c28
                        replace H := Option.bind_eq_some_iff.mp H
                        obtain ⟨t258, A290, H⟩ := H
                        replace H : ((colophonref08_U2.f (a0.extract 0 (t253 : Int).toNat) (wrap64 ((wrap64 (16 + (wrap64 (2 * (wrap64 (Int.tdiv t252 2)))))) + (wrap64 (2 * x12_3))))).bind fun t259 => ((colophonref08_U2.f (a0.extract 0 (t253 : Int).toNat) (wrap64 ((wrap64 (16 + (wrap64 (4 * (wrap64 (Int.tdiv t252 2)))))) + (wrap64 (2 * x12_3))))).bind fun t260 => ((colophonref08_U2.f (a0.extract 0 (t253 : Int).toNat) (wrap64 ((wrap64 (16 + (wrap64 (6 * (wrap64 (Int.tdiv t252 2)))))) + (wrap64 (2 * x12_3))))).bind fun t261 => (colophonref11_four.l2 k3 (a0.extract 0 (t253 : Int).toNat) a1 (wrap64 (Int.tdiv t252 2)) x11_3 x12_3 t258 t259 t260 (wrap64 ((wrap64 (16 + (wrap64 (6 * (wrap64 (Int.tdiv t252 2)))))) + (wrap64 (2 * x12_3)))) t261 t259)))) = some (r1, r2) := H
                        have A29 := Aside0.mk A290
                        clear A290
                        replace H := Option.bind_eq_some_iff.mp H
                        obtain ⟨t259, A300, H⟩ := H
                        replace H : ((colophonref08_U2.f (a0.extract 0 (t253 : Int).toNat) (wrap64 ((wrap64 (16 + (wrap64 (4 * (wrap64 (Int.tdiv t252 2)))))) + (wrap64 (2 * x12_3))))).bind fun t260 => ((colophonref08_U2.f (a0.extract 0 (t253 : Int).toNat) (wrap64 ((wrap64 (16 + (wrap64 (6 * (wrap64 (Int.tdiv t252 2)))))) + (wrap64 (2 * x12_3))))).bind fun t261 => (colophonref11_four.l2 k3 (a0.extract 0 (t253 : Int).toNat) a1 (wrap64 (Int.tdiv t252 2)) x11_3 x12_3 t258 t259 t260 (wrap64 ((wrap64 (16 + (wrap64 (6 * (wrap64 (Int.tdiv t252 2)))))) + (wrap64 (2 * x12_3)))) t261 t259))) = some (r1, r2) := H
                        have A30 := Aside0.mk A300
                        clear A300
                        replace H := Option.bind_eq_some_iff.mp H
                        obtain ⟨t260, A310, H⟩ := H
                        replace H : ((colophonref08_U2.f (a0.extract 0 (t253 : Int).toNat) (wrap64 ((wrap64 (16 + (wrap64 (6 * (wrap64 (Int.tdiv t252 2)))))) + (wrap64 (2 * x12_3))))).bind fun t261 => (colophonref11_four.l2 k3 (a0.extract 0 (t253 : Int).toNat) a1 (wrap64 (Int.tdiv t252 2)) x11_3 x12_3 t258 t259 t260 (wrap64 ((wrap64 (16 + (wrap64 (6 * (wrap64 (Int.tdiv t252 2)))))) + (wrap64 (2 * x12_3)))) t261 t259)) = some (r1, r2) := H
                        have A31 := Aside0.mk A310
                        clear A310
                        replace H := Option.bind_eq_some_iff.mp H
                        obtain ⟨t261, A320, H⟩ := H
                        replace H : (colophonref11_four.l2 k3 (a0.extract 0 (t253 : Int).toNat) a1 (wrap64 (Int.tdiv t252 2)) x11_3 x12_3 t258 t259 t260 (wrap64 ((wrap64 (16 + (wrap64 (6 * (wrap64 (Int.tdiv t252 2)))))) + (wrap64 (2 * x12_3)))) t261 t259) = some (r1, r2) := H
                        have A32 := Aside0.mk A320
                        clear A320
                        have H' := Aside0.mk H
                        clear H
                        go_wp2_with (first | ((with_reducible refine gate_callee (f := 23) rfl ?_); refine goesL_ (some 114) rfl rfl Try.func23 (by kernel_rfl) rfl #[.string (a0.extract 0 (t253 : Int).toNat), .int .i64 (wrap64 (14 + (wrap64 (2 * x12_3))))] rfl (by (try simp only [List.map_toArray, List.map_cons, List.map_nil]); first | done | rfl | (simp only [List.length_drop, List.length_take]; rfl)) ?_; (with_reducible refine (colophonref08_U2.calls (a0.extract 0 (t253 : Int).toNat) (wrap64 (14 + (wrap64 (2 * x12_3)))) t258 _ A29.out).mono ?_); rintro e w' ⟨rfl, ⟨nd, rfl⟩⟩; refine ⟨_, rfl, ?_⟩) | ((with_reducible refine gate_callee (f := 23) rfl ?_); refine goesL_ (some 122) rfl rfl Try.func23 (by kernel_rfl) rfl #[.string (a0.extract 0 (t253 : Int).toNat), .int .i64 (wrap64 ((wrap64 (16 + (wrap64 (2 * (wrap64 (Int.tdiv t252 2)))))) + (wrap64 (2 * x12_3))))] rfl (by (try simp only [List.map_toArray, List.map_cons, List.map_nil]); first | done | rfl | (simp only [List.length_drop, List.length_take]; rfl)) ?_; (with_reducible refine (colophonref08_U2.calls (a0.extract 0 (t253 : Int).toNat) (wrap64 ((wrap64 (16 + (wrap64 (2 * (wrap64 (Int.tdiv t252 2)))))) + (wrap64 (2 * x12_3)))) t259 _ A30.out).mono ?_); rintro e w' ⟨rfl, ⟨nd, rfl⟩⟩; refine ⟨_, rfl, ?_⟩) | ((with_reducible refine gate_callee (f := 23) rfl ?_); refine goesL_ (some 130) rfl rfl Try.func23 (by kernel_rfl) rfl #[.string (a0.extract 0 (t253 : Int).toNat), .int .i64 (wrap64 ((wrap64 (16 + (wrap64 (4 * (wrap64 (Int.tdiv t252 2)))))) + (wrap64 (2 * x12_3))))] rfl (by (try simp only [List.map_toArray, List.map_cons, List.map_nil]); first | done | rfl | (simp only [List.length_drop, List.length_take]; rfl)) ?_; (with_reducible refine (colophonref08_U2.calls (a0.extract 0 (t253 : Int).toNat) (wrap64 ((wrap64 (16 + (wrap64 (4 * (wrap64 (Int.tdiv t252 2)))))) + (wrap64 (2 * x12_3)))) t260 _ A31.out).mono ?_); rintro e w' ⟨rfl, ⟨nd, rfl⟩⟩; refine ⟨_, rfl, ?_⟩) | ((with_reducible refine gate_callee (f := 23) rfl ?_); refine goesL_ (some 139) rfl rfl Try.func23 (by kernel_rfl) rfl #[.string (a0.extract 0 (t253 : Int).toNat), .int .i64 (wrap64 ((wrap64 (16 + (wrap64 (6 * (wrap64 (Int.tdiv t252 2)))))) + (wrap64 (2 * x12_3))))] rfl (by (try simp only [List.map_toArray, List.map_cons, List.map_nil]); first | done | rfl | (simp only [List.length_drop, List.length_take]; rfl)) ?_; (with_reducible refine (colophonref08_U2.calls (a0.extract 0 (t253 : Int).toNat) (wrap64 ((wrap64 (16 + (wrap64 (6 * (wrap64 (Int.tdiv t252 2)))))) + (wrap64 (2 * x12_3)))) t261 _ A32.out).mono ?_); rintro e w' ⟨rfl, ⟨nd, rfl⟩⟩; refine ⟨_, rfl, ?_⟩))
                        go_loopg [11, 18] k3 (fun kq v11 v18 w' => ∃ (x11_4 : List (S47)) (x18_4 : Int), v18 = .int .i64 x18_4 ∧ Aside0 (colophonref11_four.l2 kq (a0.extract 0 (t253 : Int).toNat) a1 (wrap64 (Int.tdiv t252 2)) x11_4 x12_3 t258 t259 t260 (wrap64 ((wrap64 (16 + (wrap64 (6 * (wrap64 (Int.tdiv t252 2)))))) + (wrap64 (2 * x12_3)))) t261 x18_4 = some (r1, r2)) ∧ Aside0 (kq ≤ k3) ∧ Aside0 (Kd.R k47 47 w' w.heap.size (fun _ => True) v11 x11_4) ∧ Aside0 (Below w.heap.size w w'))
                        case atStart => exact ⟨(x11_3), (t259), (by first | rfl | (simp; done) | (simp [*]; done)), H', ⟨Nat.le_refl _⟩, ⟨by (with_reducible repeat (first | apply Kd.R_alloc | apply Kd.R_drewN | apply Kd.R_drew)); exact HO_11.out⟩, ⟨by repeat (first | (with_reducible first | exact HB.out | apply below_alloc | apply pw_below_drewN | apply below_drew1) | exact HB.out)⟩⟩
                        case round =>
                          clear H'
                          try clear c1
                          try clear c2
                          try clear p2
                          try clear c6
                          try clear c6b0
                          try clear c6b1
                          try clear p6
                          try clear c7
                          try clear c7b0
                          try clear c7b1
                          try clear c8
                          try clear c8b0
                          try clear c8b1
                          try clear c9
                          try clear c9b0
                          try clear c9b1
                          try clear c11
                          try clear c11b0
                          try clear c11b1
                          try clear c12
                          try clear c12b0
                          try clear c13
                          try clear c13b0
                          try clear c14
                          try clear c15
                          try clear c15b0
                          try clear c15b1
                          try clear c16
                          try clear c16b0
                          try clear c16b1
                          try clear c17
                          try clear c17b0
                          try clear c20
                          try clear c20b0
                          try clear c21
                          try clear c21b0
                          try clear c23
                          try clear c23b0
                          try clear c24
                          try clear c24b0
                          try clear c24b1
                          try clear c25
                          try clear c25b0
                          try clear c25b1
                          try clear c26
                          try clear c26b0
                          try clear c26b1
                          try clear c27
                          try clear c27b0
                          try clear c27b1
                          try clear c28
                          try clear c28b0
                          try clear p2
                          try clear p6
                          obtain ⟨x11_4, x18_4, rfl, HA, HK4, HO_11, HB⟩ := hrel
                          cases gk with
                          | zero => exact absurd HA.out (by simp [colophonref11_four.l2])
                          | succ k4 =>
                            have H := HA.out
                            clear HA
                            simp only [colophonref11_four.l2] at H
                            by_cases c33 : x18_4 ≤ t258
                            · rw [if_pos c33] at H
                              have c33b0 : decide (x18_4 ≤ t258) = true := decide_eq_true c33
                              clear c33
                              have HC34 := Aside0.mk H
                              clear H
                              go_upto_region 22 with (fail)
                              go_cut [152] (fun v152 wc => ∃ (kq : Nat) (x152_33 : Bool), v152 = .bool x152_33 ∧ Aside0 (colophonref11_four.j4 kq (a0.extract 0 (t253 : Int).toNat) a1 (wrap64 (Int.tdiv t252 2)) x11_4 x12_3 t258 t259 t260 (wrap64 ((wrap64 (16 + (wrap64 (6 * (wrap64 (Int.tdiv t252 2)))))) + (wrap64 (2 * x12_3)))) t261 x18_4 x152_33 = some (r1, r2)) ∧ Aside0 (kq ≤ k4) ∧ Aside0 (Kd.R k47 47 wc w.heap.size (fun _ => True) u11 x11_4) ∧ Aside0 (Below w.heap.size w wc))
                              case first =>
                                have H := HC34.out
                                clear HC34
                                by_cases c35 : x18_4 = 65535
                                · rw [if_pos c35] at H
                                  have c35b0 : (x18_4 == 65535) = true := beq_iff_eq.mpr c35
                                  have c35b1 : (x18_4 != 65535) = false := bne_eq_false_iff_eq.mpr c35
                                  clear c35
                                  (first | rw [c35b0] | (simp only [i64_w, i32_w]; rw [c35b0]) | skip)
                                  have H' := Aside0.mk H
                                  clear H
                                  go_wp2
                                  go_meet
                                  case rel => exact ⟨_, (true), (by first | rfl | (simp; done) | (simp [*]; done)), H', ⟨by have := HJ4.out; have := HK2.out; have := HK3.out; have := HK4.out; first | omega | exact Nat.le_refl _⟩, ⟨by (with_reducible repeat (first | apply Kd.R_alloc | apply Kd.R_drewN | apply Kd.R_drew)); exact HO_11.out⟩, ⟨by repeat (first | (with_reducible first | exact HB.out | apply below_alloc | apply pw_below_drewN | apply below_drew1) | exact HB.out)⟩⟩
                                · rw [if_neg c35] at H
                                  have c35b0 : (x18_4 == 65535) = false := beq_eq_false_iff_ne.mpr c35
                                  have c35b1 : (x18_4 != 65535) = true := bne_iff_ne.mpr c35
                                  (first | rw [c35b0] | (simp only [i64_w, i32_w]; rw [c35b0]) | skip)
                                  replace H := Option.bind_eq_some_iff.mp H
                                  obtain ⟨t262, A360, H⟩ := H
                                  replace H : (colophonref11_four.j4 k4 (a0.extract 0 (t253 : Int).toNat) a1 (wrap64 (Int.tdiv t252 2)) x11_4 x12_3 t258 t259 t260 (wrap64 ((wrap64 (16 + (wrap64 (6 * (wrap64 (Int.tdiv t252 2)))))) + (wrap64 (2 * x12_3)))) t261 x18_4 (!t262)) = some (r1, r2) := H
                                  have A36 := Aside0.mk A360
                                  clear A360
                                  have H' := Aside0.mk H
                                  clear H
                                  go_wp2_with (first | (go_at_call 38; (with_reducible refine (colophonref04_Is.calls x18_4 t262 _ A36.out).mono ?_); rintro e w' ⟨rfl, ⟨nd, rfl⟩⟩))
                                  go_meet
                                  case rel => exact ⟨_, (!t262), (by first | rfl | (simp; done) | (simp [*]; done)), H', ⟨by have := HJ4.out; have := HK2.out; have := HK3.out; have := HK4.out; first | omega | exact Nat.le_refl _⟩, ⟨by (with_reducible repeat (first | apply Kd.R_alloc | apply Kd.R_drewN | apply Kd.R_drew)); exact HO_11.out⟩, ⟨by repeat (first | (with_reducible first | exact HB.out | apply below_alloc | apply pw_below_drewN | apply below_drew1) | exact HB.out)⟩⟩
                              case rest =>
                                clear HC34
                                try clear c1
                                try clear c2
                                try clear p2
                                try clear c3
                                try clear c6
                                try clear c6b0
                                try clear c6b1
                                try clear p6
                                try clear c7
                                try clear c7b0
                                try clear c7b1
                                try clear c8
                                try clear c8b0
                                try clear c8b1
                                try clear c9
                                try clear c9b0
                                try clear c9b1
                                try clear c11
                                try clear c11b0
                                try clear c11b1
                                try clear c12
                                try clear c12b0
                                try clear c13
                                try clear c13b0
                                try clear c14
                                try clear c15
                                try clear c15b0
                                try clear c15b1
                                try clear c16
                                try clear c16b0
                                try clear c16b1
                                try clear c17
                                try clear c17b0
                                try clear c20
                                try clear c20b0
                                try clear c21
                                try clear c21b0
                                try clear c23
                                try clear c23b0
                                try clear c24
                                try clear c24b0
                                try clear c24b1
                                try clear c25
                                try clear c25b0
                                try clear c25b1
                                try clear c26
                                try clear c26b0
                                try clear c26b1
                                try clear c27
                                try clear c27b0
                                try clear c27b1
                                try clear c28
                                try clear c28b0
                                try clear c33
                                try clear c33b0
                                try clear c35
                                try clear c35b0
                                try clear c35b1
                                try clear p2
                                try clear p6
                                obtain ⟨kq, x152_33, rfl, HA, HJ33, HO_11, HB⟩ := hcut
                                cases kq with
                                | zero => exact absurd HA.out (by simp [colophonref11_four.j4])
                                | succ kj33 =>
                                  have H := HA.out
                                  clear HA
                                  simp only [colophonref11_four.j4] at H
                                  by_cases c37 : x152_33 = true
                                  · subst c37
                                    have H1 : (colophonref11_four.l2 kj33 (a0.extract 0 (t253 : Int).toNat) a1 (wrap64 (Int.tdiv t252 2)) x11_4 x12_3 t258 t259 t260 (wrap64 ((wrap64 (16 + (wrap64 (6 * (wrap64 (Int.tdiv t252 2)))))) + (wrap64 (2 * x12_3)))) t261 (wrap64 (x18_4 + 1))) = some (r1, r2) := by rw [if_pos rfl] at H; exact H
                                    clear H
                                    have H := H1
                                    clear H1
                                    have H' := Aside0.mk H
                                    clear H
                                    go_wp2
                                    go_roundg kj33
                                    case measure => have := HJ4.out; have := HK2.out; have := HK3.out; have := HK4.out; have := HJ33.out; omega
                                    case rel => exact ⟨(x11_4), (wrap64 (x18_4 + 1)), (by first | rfl | (simp; done) | (simp [*]; done)), H', ⟨by have := HJ4.out; have := HK2.out; have := HK3.out; have := HK4.out; have := HJ33.out; omega⟩, ⟨by (with_reducible repeat (first | apply Kd.R_alloc | apply Kd.R_drewN | apply Kd.R_drew)); exact HO_11.out⟩, ⟨by repeat (first | (with_reducible first | exact HB.out | apply below_alloc | apply pw_below_drewN | apply below_drew1) | exact HB.out)⟩⟩
                                  · replace c37 := Bool.eq_false_iff.mpr c37
                                    subst c37
                                    have H1 : (if t261 = 0 then ((colophonref11_add.f kj33 x11_4 x18_4 (Int.tmod (wrap64 (x18_4 + t260)) 65536)).bind fun bt263 => (if (Int.tmod (wrap64 (x18_4 + t260)) 65536) ≥ a1 then (some (([] : List (S47)), false)) else (if bt263.2 = true then (colophonref11_four.l2 kj33 (a0.extract 0 (t253 : Int).toNat) a1 (wrap64 (Int.tdiv t252 2)) bt263.1 x12_3 t258 t259 t260 (wrap64 ((wrap64 (16 + (wrap64 (6 * (wrap64 (Int.tdiv t252 2)))))) + (wrap64 (2 * x12_3)))) t261 (wrap64 (x18_4 + 1))) else (some (([] : List (S47)), false))))) else (if (Int.tmod t261 2) = 0 then (colophonref11_four.j5 kj33 (a0.extract 0 (t253 : Int).toNat) a1 (wrap64 (Int.tdiv t252 2)) x11_4 x12_3 t258 t259 t260 (wrap64 ((wrap64 (16 + (wrap64 (6 * (wrap64 (Int.tdiv t252 2)))))) + (wrap64 (2 * x12_3)))) t261 x18_4 (wrap64 ((wrap64 ((wrap64 ((wrap64 (16 + (wrap64 (6 * (wrap64 (Int.tdiv t252 2)))))) + (wrap64 (2 * x12_3)))) + t261)) + (wrap64 (2 * (wrap64 (x18_4 - t259)))))) (decide ((wrap64 ((wrap64 ((wrap64 ((wrap64 ((wrap64 (16 + (wrap64 (6 * (wrap64 (Int.tdiv t252 2)))))) + (wrap64 (2 * x12_3)))) + t261)) + (wrap64 (2 * (wrap64 (x18_4 - t259)))))) + 2)) > ((a0.extract 0 (t253 : Int).toNat).size : Int)))) else (colophonref11_four.j5 kj33 (a0.extract 0 (t253 : Int).toNat) a1 (wrap64 (Int.tdiv t252 2)) x11_4 x12_3 t258 t259 t260 (wrap64 ((wrap64 (16 + (wrap64 (6 * (wrap64 (Int.tdiv t252 2)))))) + (wrap64 (2 * x12_3)))) t261 x18_4 (wrap64 ((wrap64 ((wrap64 ((wrap64 (16 + (wrap64 (6 * (wrap64 (Int.tdiv t252 2)))))) + (wrap64 (2 * x12_3)))) + t261)) + (wrap64 (2 * (wrap64 (x18_4 - t259)))))) true))) = some (r1, r2) := by rw [if_neg (show ¬ (false = true) by decide)] at H; exact H
                                    clear H
                                    have H := H1
                                    clear H1
                                    by_cases c38 : t261 = 0
                                    · rw [if_pos c38] at H
                                      have c38b0 : (t261 == 0) = true := beq_iff_eq.mpr c38
                                      have c38b1 : (t261 != 0) = false := bne_eq_false_iff_eq.mpr c38
                                      clear c38
                                      replace H := Option.bind_eq_some_iff.mp H
                                      obtain ⟨⟨t263, t266⟩, A390, H⟩ := H
                                      replace H : (if (Int.tmod (wrap64 (x18_4 + t260)) 65536) ≥ a1 then (some (([] : List (S47)), false)) else (if t266 = true then (colophonref11_four.l2 kj33 (a0.extract 0 (t253 : Int).toNat) a1 (wrap64 (Int.tdiv t252 2)) t263 x12_3 t258 t259 t260 (wrap64 ((wrap64 (16 + (wrap64 (6 * (wrap64 (Int.tdiv t252 2)))))) + (wrap64 (2 * x12_3)))) t261 (wrap64 (x18_4 + 1))) else (some (([] : List (S47)), false)))) = some (r1, r2) := H
                                      have A39 := Aside0.mk A390
                                      clear A390
                                      by_cases c40 : (Int.tmod (wrap64 (x18_4 + t260)) 65536) ≥ a1
                                      · rw [if_pos c40] at H
                                        have c40b0 : decide (a1 ≤ (Int.tmod (wrap64 (x18_4 + t260)) 65536)) = true := decide_eq_true c40
                                        (try (have c40b0w := c40b0; ((first | rw [pw_wdiv _ _ (by omega) (by omega)] at c40b0w | rw [pw_wdiv' _ _ (by omega) (by omega)] at c40b0w | rw [Go.IntWalk.wrap64_in _ (by omega)] at c40b0w); repeat (first | rw [pw_wdiv _ _ (by omega) (by omega)] at c40b0w | rw [pw_wdiv' _ _ (by omega) (by omega)] at c40b0w | rw [Go.IntWalk.wrap64_in _ (by omega)] at c40b0w))))
                                        clear c40
                                        simp only [Option.some.injEq, Prod.mk.injEq] at H
                                        obtain ⟨rfl, rfl⟩ := H
                                        obtain ⟨Ao41, co41, eo41⟩ := Kd.R_slice HO_11.out
                                        subst eo41
                                        go_wp2_with (first | ((with_reducible refine gate_callee (f := 37) rfl ?_); refine goesL_ (some 190) rfl rfl Try.func37 (by kernel_rfl) rfl #[.slice Ao41 x11_4.length co41, .int .i64 x18_4, .int .i64 (Int.tmod (wrap64 (x18_4 + t260)) 65536)] rfl (by (try simp only [List.map_toArray, List.map_cons, List.map_nil]); first | done | rfl | (simp only [List.length_drop, List.length_take]; rfl)) ?_; (with_reducible refine (colophonref11_add.calls kj33 (fun k_ => some k_ = (.slice Ao41 x11_4.length co41 : Value).ownBlock) (.slice Ao41 x11_4.length co41) x11_4 x18_4 (Int.tmod (wrap64 (x18_4 + t260)) 65536) t263 t266 w _ ?side1 ?side2 A39.out).mono ?_); (case side1 => repeat (first | (with_reducible first | exact HB.out | apply below_alloc | apply pw_below_drewN | apply below_drew1) | exact HB.out)); (case side2 => exact Kd.R_tight rfl HO_11.out); rintro e w42 ⟨v264, rfl, ho0, hb, hkp⟩; refine ⟨_, rfl, ?_⟩; have n0_ := Aside0.mk (Kd.R_mono (ok' := fun k_ => True) ho0 (fun k_ hk_ => trivial)); have n1_ := Aside0.mk (hb); clear HB; clear HO_11; have HO265 := n0_; have HB := n1_; clear n0_ n1_; (try clear hb); (try clear hkp); (try clear ho0)))
                                        go_ret2
                                        exact ⟨_, by first | rfl | (simp [errW_none, errW_some] <;> rfl) | (simp [*, errW_none, errW_some] <;> rfl) | (((first | rw [pw_wdiv _ _ (by omega) (by omega)] | rw [pw_wdiv' _ _ (by omega) (by omega)] | rw [Go.IntWalk.wrap64_in _ (by omega)]); repeat (first | rw [pw_wdiv _ _ (by omega) (by omega)] | rw [pw_wdiv' _ _ (by omega) (by omega)] | rw [Go.IntWalk.wrap64_in _ (by omega)])); rfl), by first | exact Kd.R_nil _ _ _ _ _ | exact Kd.N_nil _ _ _ _ _ | exact Kd.V_nil _ _ _ _ _ | exact Kd.Q_nil _ _ _ _ _ | exact Kd.S_nil _ _ _ _ _, by repeat (first | (with_reducible first | exact HB.out | apply below_alloc | apply pw_below_drewN | apply below_drew1) | exact HB.out)⟩
                                      · rw [if_neg c40] at H
                                        have c40b0 : decide (a1 ≤ (Int.tmod (wrap64 (x18_4 + t260)) 65536)) = false := decide_eq_false c40
                                        (try (have c40b0w := c40b0; ((first | rw [pw_wdiv _ _ (by omega) (by omega)] at c40b0w | rw [pw_wdiv' _ _ (by omega) (by omega)] at c40b0w | rw [Go.IntWalk.wrap64_in _ (by omega)] at c40b0w); repeat (first | rw [pw_wdiv _ _ (by omega) (by omega)] at c40b0w | rw [pw_wdiv' _ _ (by omega) (by omega)] at c40b0w | rw [Go.IntWalk.wrap64_in _ (by omega)] at c40b0w))))
                                        clear c40
                                        by_cases c43 : t266 = true
                                        · subst c43
                                          have H1 : (colophonref11_four.l2 kj33 (a0.extract 0 (t253 : Int).toNat) a1 (wrap64 (Int.tdiv t252 2)) t263 x12_3 t258 t259 t260 (wrap64 ((wrap64 (16 + (wrap64 (6 * (wrap64 (Int.tdiv t252 2)))))) + (wrap64 (2 * x12_3)))) t261 (wrap64 (x18_4 + 1))) = some (r1, r2) := by rw [if_pos rfl] at H; exact H
                                          clear H
                                          have H := H1
                                          clear H1
                                          have H' := Aside0.mk H
                                          clear H
                                          obtain ⟨Ao44, co44, eo44⟩ := Kd.R_slice HO_11.out
                                          subst eo44
                                          go_wp2_with (first | ((with_reducible refine gate_callee (f := 37) rfl ?_); refine goesL_ (some 190) rfl rfl Try.func37 (by kernel_rfl) rfl #[.slice Ao44 x11_4.length co44, .int .i64 x18_4, .int .i64 (Int.tmod (wrap64 (x18_4 + t260)) 65536)] rfl (by (try simp only [List.map_toArray, List.map_cons, List.map_nil]); first | done | rfl | (simp only [List.length_drop, List.length_take]; rfl)) ?_; (with_reducible refine (colophonref11_add.calls kj33 (fun k_ => some k_ = (.slice Ao44 x11_4.length co44 : Value).ownBlock) (.slice Ao44 x11_4.length co44) x11_4 x18_4 (Int.tmod (wrap64 (x18_4 + t260)) 65536) t263 true w _ ?side1 ?side2 A39.out).mono ?_); (case side1 => repeat (first | (with_reducible first | exact HB.out | apply below_alloc | apply pw_below_drewN | apply below_drew1) | exact HB.out)); (case side2 => exact Kd.R_tight rfl HO_11.out); rintro e w45 ⟨v264, rfl, ho0, hb, hkp⟩; refine ⟨_, rfl, ?_⟩; have n0_ := Aside0.mk (Kd.R_mono (ok' := fun k_ => True) ho0 (fun k_ hk_ => trivial)); have n1_ := Aside0.mk (hb); clear HB; clear HO_11; have HO265 := n0_; have HB := n1_; clear n0_ n1_; (try clear hb); (try clear hkp); (try clear ho0)))
                                          go_roundg kj33
                                          case measure => have := HJ4.out; have := HK2.out; have := HK3.out; have := HK4.out; have := HJ33.out; omega
                                          case rel => exact ⟨(t263), (wrap64 (x18_4 + 1)), (by first | rfl | (simp; done) | (simp [*]; done)), H', ⟨by have := HJ4.out; have := HK2.out; have := HK3.out; have := HK4.out; have := HJ33.out; omega⟩, ⟨by (with_reducible repeat (first | apply Kd.R_alloc | apply Kd.R_drewN | apply Kd.R_drew)); exact HO265.out⟩, ⟨by repeat (first | (with_reducible first | exact HB.out | apply below_alloc | apply pw_below_drewN | apply below_drew1) | exact HB.out)⟩⟩
                                        · replace c43 := Bool.eq_false_iff.mpr c43
                                          subst c43
                                          have H1 : (some (([] : List (S47)), false)) = some (r1, r2) := by rw [if_neg (show ¬ (false = true) by decide)] at H; exact H
                                          clear H
                                          have H := H1
                                          clear H1
                                          simp only [Option.some.injEq, Prod.mk.injEq] at H
                                          obtain ⟨rfl, rfl⟩ := H
                                          obtain ⟨Ao46, co46, eo46⟩ := Kd.R_slice HO_11.out
                                          subst eo46
                                          go_wp2_with (first | ((with_reducible refine gate_callee (f := 37) rfl ?_); refine goesL_ (some 190) rfl rfl Try.func37 (by kernel_rfl) rfl #[.slice Ao46 x11_4.length co46, .int .i64 x18_4, .int .i64 (Int.tmod (wrap64 (x18_4 + t260)) 65536)] rfl (by (try simp only [List.map_toArray, List.map_cons, List.map_nil]); first | done | rfl | (simp only [List.length_drop, List.length_take]; rfl)) ?_; (with_reducible refine (colophonref11_add.calls kj33 (fun k_ => some k_ = (.slice Ao46 x11_4.length co46 : Value).ownBlock) (.slice Ao46 x11_4.length co46) x11_4 x18_4 (Int.tmod (wrap64 (x18_4 + t260)) 65536) t263 false w _ ?side1 ?side2 A39.out).mono ?_); (case side1 => repeat (first | (with_reducible first | exact HB.out | apply below_alloc | apply pw_below_drewN | apply below_drew1) | exact HB.out)); (case side2 => exact Kd.R_tight rfl HO_11.out); rintro e w47 ⟨v264, rfl, ho0, hb, hkp⟩; refine ⟨_, rfl, ?_⟩; have n0_ := Aside0.mk (Kd.R_mono (ok' := fun k_ => True) ho0 (fun k_ hk_ => trivial)); have n1_ := Aside0.mk (hb); clear HB; clear HO_11; have HO265 := n0_; have HB := n1_; clear n0_ n1_; (try clear hb); (try clear hkp); (try clear ho0)))
                                          go_ret2
                                          exact ⟨_, by first | rfl | (simp [errW_none, errW_some] <;> rfl) | (simp [*, errW_none, errW_some] <;> rfl) | (((first | rw [pw_wdiv _ _ (by omega) (by omega)] | rw [pw_wdiv' _ _ (by omega) (by omega)] | rw [Go.IntWalk.wrap64_in _ (by omega)]); repeat (first | rw [pw_wdiv _ _ (by omega) (by omega)] | rw [pw_wdiv' _ _ (by omega) (by omega)] | rw [Go.IntWalk.wrap64_in _ (by omega)])); rfl), by first | exact Kd.R_nil _ _ _ _ _ | exact Kd.N_nil _ _ _ _ _ | exact Kd.V_nil _ _ _ _ _ | exact Kd.Q_nil _ _ _ _ _ | exact Kd.S_nil _ _ _ _ _, by repeat (first | (with_reducible first | exact HB.out | apply below_alloc | apply pw_below_drewN | apply below_drew1) | exact HB.out)⟩
                                    · rw [if_neg c38] at H
                                      have c38b0 : (t261 == 0) = false := beq_eq_false_iff_ne.mpr c38
                                      have c38b1 : (t261 != 0) = true := bne_iff_ne.mpr c38
                                      have HC48 := Aside0.mk H
                                      clear H
                                      go_upto_region 26 with (fail)
                                      go_cut [176] (fun v176 wc => ∃ (kq : Nat) (x176_47 : Bool), v176 = .bool x176_47 ∧ Aside0 (colophonref11_four.j5 kq (a0.extract 0 (t253 : Int).toNat) a1 (wrap64 (Int.tdiv t252 2)) x11_4 x12_3 t258 t259 t260 (wrap64 ((wrap64 (16 + (wrap64 (6 * (wrap64 (Int.tdiv t252 2)))))) + (wrap64 (2 * x12_3)))) t261 x18_4 (wrap64 ((wrap64 ((wrap64 ((wrap64 (16 + (wrap64 (6 * (wrap64 (Int.tdiv t252 2)))))) + (wrap64 (2 * x12_3)))) + t261)) + (wrap64 (2 * (wrap64 (x18_4 - t259)))))) x176_47 = some (r1, r2)) ∧ Aside0 (kq ≤ kj33) ∧ Aside0 (Kd.R k47 47 wc w.heap.size (fun _ => True) u11 x11_4) ∧ Aside0 (Below w.heap.size w wc))
                                      case first =>
                                        have H := HC48.out
                                        clear HC48
                                        by_cases c49 : (Int.tmod t261 2) = 0
                                        · rw [if_pos c49] at H
                                          have c49b0 : ((Int.tmod t261 2) == 0) = true := beq_iff_eq.mpr c49
                                          have c49b1 : ((Int.tmod t261 2) != 0) = false := bne_eq_false_iff_eq.mpr c49
                                          clear c49
                                          (first | rw [c49b0] | (simp only [i64_w, i32_w]; rw [c49b0]) | skip)
                                          have H' := Aside0.mk H
                                          clear H
                                          go_wp2
                                          go_meet
                                          case rel => exact ⟨_, (decide ((wrap64 ((wrap64 ((wrap64 ((wrap64 ((wrap64 (16 + (wrap64 (6 * (wrap64 (Int.tdiv t252 2)))))) + (wrap64 (2 * x12_3)))) + t261)) + (wrap64 (2 * (wrap64 (x18_4 - t259)))))) + 2)) > ((a0.extract 0 (t253 : Int).toNat).size : Int))), (by first | rfl | (simp; done) | (simp [*]; done)), H', ⟨by have := HJ4.out; have := HK2.out; have := HK3.out; have := HK4.out; have := HJ33.out; first | omega | exact Nat.le_refl _⟩, ⟨by (with_reducible repeat (first | apply Kd.R_alloc | apply Kd.R_drewN | apply Kd.R_drew)); exact HO_11.out⟩, ⟨by repeat (first | (with_reducible first | exact HB.out | apply below_alloc | apply pw_below_drewN | apply below_drew1) | exact HB.out)⟩⟩
                                        · rw [if_neg c49] at H
                                          have c49b0 : ((Int.tmod t261 2) == 0) = false := beq_eq_false_iff_ne.mpr c49
                                          have c49b1 : ((Int.tmod t261 2) != 0) = true := bne_iff_ne.mpr c49
                                          (first | rw [c49b0] | (simp only [i64_w, i32_w]; rw [c49b0]) | skip)
                                          have H' := Aside0.mk H
                                          clear H
                                          go_wp2
                                          go_meet
                                          case rel => exact ⟨_, (true), (by first | rfl | (simp; done) | (simp [*]; done)), H', ⟨by have := HJ4.out; have := HK2.out; have := HK3.out; have := HK4.out; have := HJ33.out; first | omega | exact Nat.le_refl _⟩, ⟨by (with_reducible repeat (first | apply Kd.R_alloc | apply Kd.R_drewN | apply Kd.R_drew)); exact HO_11.out⟩, ⟨by repeat (first | (with_reducible first | exact HB.out | apply below_alloc | apply pw_below_drewN | apply below_drew1) | exact HB.out)⟩⟩
                                      case rest =>
                                        clear HC48
                                        try clear c1
                                        try clear c2
                                        try clear p2
                                        try clear c3
                                        try clear c4
                                        try clear c6
                                        try clear c6b0
                                        try clear c6b1
                                        try clear p6
                                        try clear c7
                                        try clear c7b0
                                        try clear c7b1
                                        try clear c8
                                        try clear c8b0
                                        try clear c8b1
                                        try clear c9
                                        try clear c9b0
                                        try clear c9b1
                                        try clear c11
                                        try clear c11b0
                                        try clear c11b1
                                        try clear c12
                                        try clear c12b0
                                        try clear c13
                                        try clear c13b0
                                        try clear c14
                                        try clear c15
                                        try clear c15b0
                                        try clear c15b1
                                        try clear c16
                                        try clear c16b0
                                        try clear c16b1
                                        try clear c17
                                        try clear c17b0
                                        try clear c20
                                        try clear c20b0
                                        try clear c21
                                        try clear c21b0
                                        try clear c23
                                        try clear c23b0
                                        try clear c24
                                        try clear c24b0
                                        try clear c24b1
                                        try clear c25
                                        try clear c25b0
                                        try clear c25b1
                                        try clear c26
                                        try clear c26b0
                                        try clear c26b1
                                        try clear c27
                                        try clear c27b0
                                        try clear c27b1
                                        try clear c28
                                        try clear c28b0
                                        try clear c33
                                        try clear c33b0
                                        try clear c35
                                        try clear c35b0
                                        try clear c35b1
                                        try clear c37
                                        try clear c38
                                        try clear c38b0
                                        try clear c38b1
                                        try clear c40
                                        try clear c40b0
                                        try clear c43
                                        try clear c49
                                        try clear c49b0
                                        try clear c49b1
                                        try clear p2
                                        try clear p6
                                        obtain ⟨kq, x176_47, rfl, HA, HJ47, HO_11, HB⟩ := hcut
                                        cases kq with
                                        | zero => exact absurd HA.out (by simp [colophonref11_four.j5])
                                        | succ kj47 =>
                                          have H := HA.out
                                          clear HA
                                          simp only [colophonref11_four.j5] at H
                                          by_cases c50 : x176_47 = true
                                          · subst c50
                                            have H1 : (some (([] : List (S47)), false)) = some (r1, r2) := by rw [if_pos rfl] at H; exact H
                                            clear H
                                            have H := H1
                                            clear H1
                                            simp only [Option.some.injEq, Prod.mk.injEq] at H
                                            obtain ⟨rfl, rfl⟩ := H
                                            go_wp2
                                            go_ret2
                                            exact ⟨_, by first | rfl | (simp [errW_none, errW_some] <;> rfl) | (simp [*, errW_none, errW_some] <;> rfl) | (((first | rw [pw_wdiv _ _ (by omega) (by omega)] | rw [pw_wdiv' _ _ (by omega) (by omega)] | rw [Go.IntWalk.wrap64_in _ (by omega)]); repeat (first | rw [pw_wdiv _ _ (by omega) (by omega)] | rw [pw_wdiv' _ _ (by omega) (by omega)] | rw [Go.IntWalk.wrap64_in _ (by omega)])); rfl), by first | exact Kd.R_nil _ _ _ _ _ | exact Kd.N_nil _ _ _ _ _ | exact Kd.V_nil _ _ _ _ _ | exact Kd.Q_nil _ _ _ _ _ | exact Kd.S_nil _ _ _ _ _, by repeat (first | (with_reducible first | exact HB.out | apply below_alloc | apply pw_below_drewN | apply below_drew1) | exact HB.out)⟩
                                          · replace c50 := Bool.eq_false_iff.mpr c50
                                            subst c50
                                            have H1 : ((colophonref08_U2.f (a0.extract 0 (t253 : Int).toNat) (wrap64 ((wrap64 ((wrap64 ((wrap64 (16 + (wrap64 (6 * (wrap64 (Int.tdiv t252 2)))))) + (wrap64 (2 * x12_3)))) + t261)) + (wrap64 (2 * (wrap64 (x18_4 - t259))))))).bind fun t267 => (if t267 = 0 then ((colophonref11_add.f kj47 x11_4 x18_4 t267).bind fun bt268 => (if t267 ≥ a1 then (some (([] : List (S47)), false)) else (if bt268.2 = true then (colophonref11_four.l2 kj47 (a0.extract 0 (t253 : Int).toNat) a1 (wrap64 (Int.tdiv t252 2)) bt268.1 x12_3 t258 t259 t260 (wrap64 ((wrap64 (16 + (wrap64 (6 * (wrap64 (Int.tdiv t252 2)))))) + (wrap64 (2 * x12_3)))) t261 (wrap64 (x18_4 + 1))) else (some (([] : List (S47)), false))))) else ((colophonref11_add.f kj47 x11_4 x18_4 (Int.tmod (wrap64 (t267 + t260)) 65536)).bind fun bt272 => (if (Int.tmod (wrap64 (t267 + t260)) 65536) ≥ a1 then (some (([] : List (S47)), false)) else (if bt272.2 = true then (colophonref11_four.l2 kj47 (a0.extract 0 (t253 : Int).toNat) a1 (wrap64 (Int.tdiv t252 2)) bt272.1 x12_3 t258 t259 t260 (wrap64 ((wrap64 (16 + (wrap64 (6 * (wrap64 (Int.tdiv t252 2)))))) + (wrap64 (2 * x12_3)))) t261 (wrap64 (x18_4 + 1))) else (some (([] : List (S47)), false))))))) = some (r1, r2) := by rw [if_neg (show ¬ (false = true) by decide)] at H; exact H
                                            clear H
                                            have H := H1
                                            clear H1
                                            replace H := Option.bind_eq_some_iff.mp H
                                            obtain ⟨t267, A510, H⟩ := H
                                            replace H : (if t267 = 0 then ((colophonref11_add.f kj47 x11_4 x18_4 t267).bind fun bt268 => (if t267 ≥ a1 then (some (([] : List (S47)), false)) else (if bt268.2 = true then (colophonref11_four.l2 kj47 (a0.extract 0 (t253 : Int).toNat) a1 (wrap64 (Int.tdiv t252 2)) bt268.1 x12_3 t258 t259 t260 (wrap64 ((wrap64 (16 + (wrap64 (6 * (wrap64 (Int.tdiv t252 2)))))) + (wrap64 (2 * x12_3)))) t261 (wrap64 (x18_4 + 1))) else (some (([] : List (S47)), false))))) else ((colophonref11_add.f kj47 x11_4 x18_4 (Int.tmod (wrap64 (t267 + t260)) 65536)).bind fun bt272 => (if (Int.tmod (wrap64 (t267 + t260)) 65536) ≥ a1 then (some (([] : List (S47)), false)) else (if bt272.2 = true then (colophonref11_four.l2 kj47 (a0.extract 0 (t253 : Int).toNat) a1 (wrap64 (Int.tdiv t252 2)) bt272.1 x12_3 t258 t259 t260 (wrap64 ((wrap64 (16 + (wrap64 (6 * (wrap64 (Int.tdiv t252 2)))))) + (wrap64 (2 * x12_3)))) t261 (wrap64 (x18_4 + 1))) else (some (([] : List (S47)), false)))))) = some (r1, r2) := H
                                            have A51 := Aside0.mk A510
                                            clear A510
                                            by_cases c52 : t267 = 0
                                            · rw [if_pos c52] at H
                                              have c52b0 : (t267 == 0) = true := beq_iff_eq.mpr c52
                                              have c52b1 : (t267 != 0) = false := bne_eq_false_iff_eq.mpr c52
                                              clear c52
                                              replace H := Option.bind_eq_some_iff.mp H
                                              obtain ⟨⟨t268, t271⟩, A530, H⟩ := H
                                              replace H : (if t267 ≥ a1 then (some (([] : List (S47)), false)) else (if t271 = true then (colophonref11_four.l2 kj47 (a0.extract 0 (t253 : Int).toNat) a1 (wrap64 (Int.tdiv t252 2)) t268 x12_3 t258 t259 t260 (wrap64 ((wrap64 (16 + (wrap64 (6 * (wrap64 (Int.tdiv t252 2)))))) + (wrap64 (2 * x12_3)))) t261 (wrap64 (x18_4 + 1))) else (some (([] : List (S47)), false)))) = some (r1, r2) := H
                                              have A53 := Aside0.mk A530
                                              clear A530
                                              by_cases c54 : t267 ≥ a1
                                              · rw [if_pos c54] at H
                                                have c54b0 : decide (a1 ≤ t267) = true := decide_eq_true c54
                                                clear c54
                                                simp only [Option.some.injEq, Prod.mk.injEq] at H
                                                obtain ⟨rfl, rfl⟩ := H
                                                go_wp2_with (first | ((with_reducible refine gate_callee (f := 23) rfl ?_); refine goesL_ (some 179) rfl rfl Try.func23 (by kernel_rfl) rfl #[.string (a0.extract 0 (t253 : Int).toNat), .int .i64 (wrap64 ((wrap64 ((wrap64 ((wrap64 (16 + (wrap64 (6 * (wrap64 (Int.tdiv t252 2)))))) + (wrap64 (2 * x12_3)))) + t261)) + (wrap64 (2 * (wrap64 (x18_4 - t259))))))] rfl (by (try simp only [List.map_toArray, List.map_cons, List.map_nil]); first | done | rfl | (simp only [List.length_drop, List.length_take]; rfl)) ?_; (with_reducible refine (colophonref08_U2.calls (a0.extract 0 (t253 : Int).toNat) (wrap64 ((wrap64 ((wrap64 ((wrap64 (16 + (wrap64 (6 * (wrap64 (Int.tdiv t252 2)))))) + (wrap64 (2 * x12_3)))) + t261)) + (wrap64 (2 * (wrap64 (x18_4 - t259)))))) t267 _ A51.out).mono ?_); rintro e w' ⟨rfl, ⟨nd, rfl⟩⟩; refine ⟨_, rfl, ?_⟩; obtain ⟨Ao55, co55, eo55⟩ := Kd.R_slice HO_11.out; subst eo55) | ((with_reducible refine gate_callee (f := 37) rfl ?_); refine goesL_ (some 190) rfl rfl Try.func37 (by kernel_rfl) rfl #[.slice Ao55 x11_4.length co55, .int .i64 x18_4, .int .i64 t267] rfl (by (try simp only [List.map_toArray, List.map_cons, List.map_nil]); first | done | rfl | (simp only [List.length_drop, List.length_take]; rfl)) ?_; (with_reducible refine (colophonref11_add.calls kj47 (fun k_ => some k_ = (.slice Ao55 x11_4.length co55 : Value).ownBlock) (.slice Ao55 x11_4.length co55) x11_4 x18_4 t267 t268 t271 w _ ?side1 ?side2 A53.out).mono ?_); (case side1 => repeat (first | (with_reducible first | exact HB.out | apply below_alloc | apply pw_below_drewN | apply below_drew1) | exact HB.out)); (case side2 => exact Kd.R_tight rfl HO_11.out); rintro e w56 ⟨v269, rfl, ho0, hb, hkp⟩; refine ⟨_, rfl, ?_⟩; have n0_ := Aside0.mk (Kd.R_mono (ok' := fun k_ => True) ho0 (fun k_ hk_ => trivial)); have n1_ := Aside0.mk (hb); clear HB; clear HO_11; have HO270 := n0_; have HB := n1_; clear n0_ n1_; (try clear hb); (try clear hkp); (try clear ho0)))
                                                go_ret2
                                                exact ⟨_, by first | rfl | (simp [errW_none, errW_some] <;> rfl) | (simp [*, errW_none, errW_some] <;> rfl) | (((first | rw [pw_wdiv _ _ (by omega) (by omega)] | rw [pw_wdiv' _ _ (by omega) (by omega)] | rw [Go.IntWalk.wrap64_in _ (by omega)]); repeat (first | rw [pw_wdiv _ _ (by omega) (by omega)] | rw [pw_wdiv' _ _ (by omega) (by omega)] | rw [Go.IntWalk.wrap64_in _ (by omega)])); rfl), by first | exact Kd.R_nil _ _ _ _ _ | exact Kd.N_nil _ _ _ _ _ | exact Kd.V_nil _ _ _ _ _ | exact Kd.Q_nil _ _ _ _ _ | exact Kd.S_nil _ _ _ _ _, by repeat (first | (with_reducible first | exact HB.out | apply below_alloc | apply pw_below_drewN | apply below_drew1) | exact HB.out)⟩
                                              · rw [if_neg c54] at H
                                                have c54b0 : decide (a1 ≤ t267) = false := decide_eq_false c54
                                                clear c54
                                                by_cases c57 : t271 = true
                                                · subst c57
                                                  have H1 : (colophonref11_four.l2 kj47 (a0.extract 0 (t253 : Int).toNat) a1 (wrap64 (Int.tdiv t252 2)) t268 x12_3 t258 t259 t260 (wrap64 ((wrap64 (16 + (wrap64 (6 * (wrap64 (Int.tdiv t252 2)))))) + (wrap64 (2 * x12_3)))) t261 (wrap64 (x18_4 + 1))) = some (r1, r2) := by rw [if_pos rfl] at H; exact H
                                                  clear H
                                                  have H := H1
                                                  clear H1
                                                  have H' := Aside0.mk H
                                                  clear H
                                                  go_wp2_with (first | ((with_reducible refine gate_callee (f := 23) rfl ?_); refine goesL_ (some 179) rfl rfl Try.func23 (by kernel_rfl) rfl #[.string (a0.extract 0 (t253 : Int).toNat), .int .i64 (wrap64 ((wrap64 ((wrap64 ((wrap64 (16 + (wrap64 (6 * (wrap64 (Int.tdiv t252 2)))))) + (wrap64 (2 * x12_3)))) + t261)) + (wrap64 (2 * (wrap64 (x18_4 - t259))))))] rfl (by (try simp only [List.map_toArray, List.map_cons, List.map_nil]); first | done | rfl | (simp only [List.length_drop, List.length_take]; rfl)) ?_; (with_reducible refine (colophonref08_U2.calls (a0.extract 0 (t253 : Int).toNat) (wrap64 ((wrap64 ((wrap64 ((wrap64 (16 + (wrap64 (6 * (wrap64 (Int.tdiv t252 2)))))) + (wrap64 (2 * x12_3)))) + t261)) + (wrap64 (2 * (wrap64 (x18_4 - t259)))))) t267 _ A51.out).mono ?_); rintro e w' ⟨rfl, ⟨nd, rfl⟩⟩; refine ⟨_, rfl, ?_⟩; obtain ⟨Ao58, co58, eo58⟩ := Kd.R_slice HO_11.out; subst eo58) | ((with_reducible refine gate_callee (f := 37) rfl ?_); refine goesL_ (some 190) rfl rfl Try.func37 (by kernel_rfl) rfl #[.slice Ao58 x11_4.length co58, .int .i64 x18_4, .int .i64 t267] rfl (by (try simp only [List.map_toArray, List.map_cons, List.map_nil]); first | done | rfl | (simp only [List.length_drop, List.length_take]; rfl)) ?_; (with_reducible refine (colophonref11_add.calls kj47 (fun k_ => some k_ = (.slice Ao58 x11_4.length co58 : Value).ownBlock) (.slice Ao58 x11_4.length co58) x11_4 x18_4 t267 t268 true w _ ?side1 ?side2 A53.out).mono ?_); (case side1 => repeat (first | (with_reducible first | exact HB.out | apply below_alloc | apply pw_below_drewN | apply below_drew1) | exact HB.out)); (case side2 => exact Kd.R_tight rfl HO_11.out); rintro e w59 ⟨v269, rfl, ho0, hb, hkp⟩; refine ⟨_, rfl, ?_⟩; have n0_ := Aside0.mk (Kd.R_mono (ok' := fun k_ => True) ho0 (fun k_ hk_ => trivial)); have n1_ := Aside0.mk (hb); clear HB; clear HO_11; have HO270 := n0_; have HB := n1_; clear n0_ n1_; (try clear hb); (try clear hkp); (try clear ho0)))
                                                  go_roundg kj47
                                                  case measure => have := HJ4.out; have := HK2.out; have := HK3.out; have := HK4.out; have := HJ33.out; have := HJ47.out; omega
                                                  case rel => exact ⟨(t268), (wrap64 (x18_4 + 1)), (by first | rfl | (simp; done) | (simp [*]; done)), H', ⟨by have := HJ4.out; have := HK2.out; have := HK3.out; have := HK4.out; have := HJ33.out; have := HJ47.out; omega⟩, ⟨by (with_reducible repeat (first | apply Kd.R_alloc | apply Kd.R_drewN | apply Kd.R_drew)); exact HO270.out⟩, ⟨by repeat (first | (with_reducible first | exact HB.out | apply below_alloc | apply pw_below_drewN | apply below_drew1) | exact HB.out)⟩⟩
                                                · replace c57 := Bool.eq_false_iff.mpr c57
                                                  subst c57
                                                  have H1 : (some (([] : List (S47)), false)) = some (r1, r2) := by rw [if_neg (show ¬ (false = true) by decide)] at H; exact H
                                                  clear H
                                                  have H := H1
                                                  clear H1
                                                  simp only [Option.some.injEq, Prod.mk.injEq] at H
                                                  obtain ⟨rfl, rfl⟩ := H
                                                  go_wp2_with (first | ((with_reducible refine gate_callee (f := 23) rfl ?_); refine goesL_ (some 179) rfl rfl Try.func23 (by kernel_rfl) rfl #[.string (a0.extract 0 (t253 : Int).toNat), .int .i64 (wrap64 ((wrap64 ((wrap64 ((wrap64 (16 + (wrap64 (6 * (wrap64 (Int.tdiv t252 2)))))) + (wrap64 (2 * x12_3)))) + t261)) + (wrap64 (2 * (wrap64 (x18_4 - t259))))))] rfl (by (try simp only [List.map_toArray, List.map_cons, List.map_nil]); first | done | rfl | (simp only [List.length_drop, List.length_take]; rfl)) ?_; (with_reducible refine (colophonref08_U2.calls (a0.extract 0 (t253 : Int).toNat) (wrap64 ((wrap64 ((wrap64 ((wrap64 (16 + (wrap64 (6 * (wrap64 (Int.tdiv t252 2)))))) + (wrap64 (2 * x12_3)))) + t261)) + (wrap64 (2 * (wrap64 (x18_4 - t259)))))) t267 _ A51.out).mono ?_); rintro e w' ⟨rfl, ⟨nd, rfl⟩⟩; refine ⟨_, rfl, ?_⟩; obtain ⟨Ao60, co60, eo60⟩ := Kd.R_slice HO_11.out; subst eo60) | ((with_reducible refine gate_callee (f := 37) rfl ?_); refine goesL_ (some 190) rfl rfl Try.func37 (by kernel_rfl) rfl #[.slice Ao60 x11_4.length co60, .int .i64 x18_4, .int .i64 t267] rfl (by (try simp only [List.map_toArray, List.map_cons, List.map_nil]); first | done | rfl | (simp only [List.length_drop, List.length_take]; rfl)) ?_; (with_reducible refine (colophonref11_add.calls kj47 (fun k_ => some k_ = (.slice Ao60 x11_4.length co60 : Value).ownBlock) (.slice Ao60 x11_4.length co60) x11_4 x18_4 t267 t268 false w _ ?side1 ?side2 A53.out).mono ?_); (case side1 => repeat (first | (with_reducible first | exact HB.out | apply below_alloc | apply pw_below_drewN | apply below_drew1) | exact HB.out)); (case side2 => exact Kd.R_tight rfl HO_11.out); rintro e w61 ⟨v269, rfl, ho0, hb, hkp⟩; refine ⟨_, rfl, ?_⟩; have n0_ := Aside0.mk (Kd.R_mono (ok' := fun k_ => True) ho0 (fun k_ hk_ => trivial)); have n1_ := Aside0.mk (hb); clear HB; clear HO_11; have HO270 := n0_; have HB := n1_; clear n0_ n1_; (try clear hb); (try clear hkp); (try clear ho0)))
                                                  go_ret2
                                                  exact ⟨_, by first | rfl | (simp [errW_none, errW_some] <;> rfl) | (simp [*, errW_none, errW_some] <;> rfl) | (((first | rw [pw_wdiv _ _ (by omega) (by omega)] | rw [pw_wdiv' _ _ (by omega) (by omega)] | rw [Go.IntWalk.wrap64_in _ (by omega)]); repeat (first | rw [pw_wdiv _ _ (by omega) (by omega)] | rw [pw_wdiv' _ _ (by omega) (by omega)] | rw [Go.IntWalk.wrap64_in _ (by omega)])); rfl), by first | exact Kd.R_nil _ _ _ _ _ | exact Kd.N_nil _ _ _ _ _ | exact Kd.V_nil _ _ _ _ _ | exact Kd.Q_nil _ _ _ _ _ | exact Kd.S_nil _ _ _ _ _, by repeat (first | (with_reducible first | exact HB.out | apply below_alloc | apply pw_below_drewN | apply below_drew1) | exact HB.out)⟩
                                            · rw [if_neg c52] at H
                                              have c52b0 : (t267 == 0) = false := beq_eq_false_iff_ne.mpr c52
                                              have c52b1 : (t267 != 0) = true := bne_iff_ne.mpr c52
                                              replace H := Option.bind_eq_some_iff.mp H
                                              obtain ⟨⟨t272, t275⟩, A620, H⟩ := H
                                              replace H : (if (Int.tmod (wrap64 (t267 + t260)) 65536) ≥ a1 then (some (([] : List (S47)), false)) else (if t275 = true then (colophonref11_four.l2 kj47 (a0.extract 0 (t253 : Int).toNat) a1 (wrap64 (Int.tdiv t252 2)) t272 x12_3 t258 t259 t260 (wrap64 ((wrap64 (16 + (wrap64 (6 * (wrap64 (Int.tdiv t252 2)))))) + (wrap64 (2 * x12_3)))) t261 (wrap64 (x18_4 + 1))) else (some (([] : List (S47)), false)))) = some (r1, r2) := H
                                              have A62 := Aside0.mk A620
                                              clear A620
                                              by_cases c63 : (Int.tmod (wrap64 (t267 + t260)) 65536) ≥ a1
                                              · rw [if_pos c63] at H
                                                have c63b0 : decide (a1 ≤ (Int.tmod (wrap64 (t267 + t260)) 65536)) = true := decide_eq_true c63
                                                (try (have c63b0w := c63b0; ((first | rw [pw_wdiv _ _ (by omega) (by omega)] at c63b0w | rw [pw_wdiv' _ _ (by omega) (by omega)] at c63b0w | rw [Go.IntWalk.wrap64_in _ (by omega)] at c63b0w); repeat (first | rw [pw_wdiv _ _ (by omega) (by omega)] at c63b0w | rw [pw_wdiv' _ _ (by omega) (by omega)] at c63b0w | rw [Go.IntWalk.wrap64_in _ (by omega)] at c63b0w))))
                                                clear c63
                                                simp only [Option.some.injEq, Prod.mk.injEq] at H
                                                obtain ⟨rfl, rfl⟩ := H
                                                go_wp2_with (first | ((with_reducible refine gate_callee (f := 23) rfl ?_); refine goesL_ (some 179) rfl rfl Try.func23 (by kernel_rfl) rfl #[.string (a0.extract 0 (t253 : Int).toNat), .int .i64 (wrap64 ((wrap64 ((wrap64 ((wrap64 (16 + (wrap64 (6 * (wrap64 (Int.tdiv t252 2)))))) + (wrap64 (2 * x12_3)))) + t261)) + (wrap64 (2 * (wrap64 (x18_4 - t259))))))] rfl (by (try simp only [List.map_toArray, List.map_cons, List.map_nil]); first | done | rfl | (simp only [List.length_drop, List.length_take]; rfl)) ?_; (with_reducible refine (colophonref08_U2.calls (a0.extract 0 (t253 : Int).toNat) (wrap64 ((wrap64 ((wrap64 ((wrap64 (16 + (wrap64 (6 * (wrap64 (Int.tdiv t252 2)))))) + (wrap64 (2 * x12_3)))) + t261)) + (wrap64 (2 * (wrap64 (x18_4 - t259)))))) t267 _ A51.out).mono ?_); rintro e w' ⟨rfl, ⟨nd, rfl⟩⟩; refine ⟨_, rfl, ?_⟩; obtain ⟨Ao64, co64, eo64⟩ := Kd.R_slice HO_11.out; subst eo64) | ((with_reducible refine gate_callee (f := 37) rfl ?_); refine goesL_ (some 190) rfl rfl Try.func37 (by kernel_rfl) rfl #[.slice Ao64 x11_4.length co64, .int .i64 x18_4, .int .i64 (Int.tmod (wrap64 (t267 + t260)) 65536)] rfl (by (try simp only [List.map_toArray, List.map_cons, List.map_nil]); first | done | rfl | (simp only [List.length_drop, List.length_take]; rfl)) ?_; (with_reducible refine (colophonref11_add.calls kj47 (fun k_ => some k_ = (.slice Ao64 x11_4.length co64 : Value).ownBlock) (.slice Ao64 x11_4.length co64) x11_4 x18_4 (Int.tmod (wrap64 (t267 + t260)) 65536) t272 t275 w _ ?side1 ?side2 A62.out).mono ?_); (case side1 => repeat (first | (with_reducible first | exact HB.out | apply below_alloc | apply pw_below_drewN | apply below_drew1) | exact HB.out)); (case side2 => exact Kd.R_tight rfl HO_11.out); rintro e w65 ⟨v273, rfl, ho0, hb, hkp⟩; refine ⟨_, rfl, ?_⟩; have n0_ := Aside0.mk (Kd.R_mono (ok' := fun k_ => True) ho0 (fun k_ hk_ => trivial)); have n1_ := Aside0.mk (hb); clear HB; clear HO_11; have HO274 := n0_; have HB := n1_; clear n0_ n1_; (try clear hb); (try clear hkp); (try clear ho0)))
                                                go_ret2
                                                exact ⟨_, by first | rfl | (simp [errW_none, errW_some] <;> rfl) | (simp [*, errW_none, errW_some] <;> rfl) | (((first | rw [pw_wdiv _ _ (by omega) (by omega)] | rw [pw_wdiv' _ _ (by omega) (by omega)] | rw [Go.IntWalk.wrap64_in _ (by omega)]); repeat (first | rw [pw_wdiv _ _ (by omega) (by omega)] | rw [pw_wdiv' _ _ (by omega) (by omega)] | rw [Go.IntWalk.wrap64_in _ (by omega)])); rfl), by first | exact Kd.R_nil _ _ _ _ _ | exact Kd.N_nil _ _ _ _ _ | exact Kd.V_nil _ _ _ _ _ | exact Kd.Q_nil _ _ _ _ _ | exact Kd.S_nil _ _ _ _ _, by repeat (first | (with_reducible first | exact HB.out | apply below_alloc | apply pw_below_drewN | apply below_drew1) | exact HB.out)⟩
                                              · rw [if_neg c63] at H
                                                have c63b0 : decide (a1 ≤ (Int.tmod (wrap64 (t267 + t260)) 65536)) = false := decide_eq_false c63
                                                (try (have c63b0w := c63b0; ((first | rw [pw_wdiv _ _ (by omega) (by omega)] at c63b0w | rw [pw_wdiv' _ _ (by omega) (by omega)] at c63b0w | rw [Go.IntWalk.wrap64_in _ (by omega)] at c63b0w); repeat (first | rw [pw_wdiv _ _ (by omega) (by omega)] at c63b0w | rw [pw_wdiv' _ _ (by omega) (by omega)] at c63b0w | rw [Go.IntWalk.wrap64_in _ (by omega)] at c63b0w))))
                                                clear c63
                                                by_cases c66 : t275 = true
                                                · subst c66
                                                  have H1 : (colophonref11_four.l2 kj47 (a0.extract 0 (t253 : Int).toNat) a1 (wrap64 (Int.tdiv t252 2)) t272 x12_3 t258 t259 t260 (wrap64 ((wrap64 (16 + (wrap64 (6 * (wrap64 (Int.tdiv t252 2)))))) + (wrap64 (2 * x12_3)))) t261 (wrap64 (x18_4 + 1))) = some (r1, r2) := by rw [if_pos rfl] at H; exact H
                                                  clear H
                                                  have H := H1
                                                  clear H1
                                                  have H' := Aside0.mk H
                                                  clear H
                                                  go_wp2_with (first | ((with_reducible refine gate_callee (f := 23) rfl ?_); refine goesL_ (some 179) rfl rfl Try.func23 (by kernel_rfl) rfl #[.string (a0.extract 0 (t253 : Int).toNat), .int .i64 (wrap64 ((wrap64 ((wrap64 ((wrap64 (16 + (wrap64 (6 * (wrap64 (Int.tdiv t252 2)))))) + (wrap64 (2 * x12_3)))) + t261)) + (wrap64 (2 * (wrap64 (x18_4 - t259))))))] rfl (by (try simp only [List.map_toArray, List.map_cons, List.map_nil]); first | done | rfl | (simp only [List.length_drop, List.length_take]; rfl)) ?_; (with_reducible refine (colophonref08_U2.calls (a0.extract 0 (t253 : Int).toNat) (wrap64 ((wrap64 ((wrap64 ((wrap64 (16 + (wrap64 (6 * (wrap64 (Int.tdiv t252 2)))))) + (wrap64 (2 * x12_3)))) + t261)) + (wrap64 (2 * (wrap64 (x18_4 - t259)))))) t267 _ A51.out).mono ?_); rintro e w' ⟨rfl, ⟨nd, rfl⟩⟩; refine ⟨_, rfl, ?_⟩; obtain ⟨Ao67, co67, eo67⟩ := Kd.R_slice HO_11.out; subst eo67) | ((with_reducible refine gate_callee (f := 37) rfl ?_); refine goesL_ (some 190) rfl rfl Try.func37 (by kernel_rfl) rfl #[.slice Ao67 x11_4.length co67, .int .i64 x18_4, .int .i64 (Int.tmod (wrap64 (t267 + t260)) 65536)] rfl (by (try simp only [List.map_toArray, List.map_cons, List.map_nil]); first | done | rfl | (simp only [List.length_drop, List.length_take]; rfl)) ?_; (with_reducible refine (colophonref11_add.calls kj47 (fun k_ => some k_ = (.slice Ao67 x11_4.length co67 : Value).ownBlock) (.slice Ao67 x11_4.length co67) x11_4 x18_4 (Int.tmod (wrap64 (t267 + t260)) 65536) t272 true w _ ?side1 ?side2 A62.out).mono ?_); (case side1 => repeat (first | (with_reducible first | exact HB.out | apply below_alloc | apply pw_below_drewN | apply below_drew1) | exact HB.out)); (case side2 => exact Kd.R_tight rfl HO_11.out); rintro e w68 ⟨v273, rfl, ho0, hb, hkp⟩; refine ⟨_, rfl, ?_⟩; have n0_ := Aside0.mk (Kd.R_mono (ok' := fun k_ => True) ho0 (fun k_ hk_ => trivial)); have n1_ := Aside0.mk (hb); clear HB; clear HO_11; have HO274 := n0_; have HB := n1_; clear n0_ n1_; (try clear hb); (try clear hkp); (try clear ho0)))
                                                  go_roundg kj47
                                                  case measure => have := HJ4.out; have := HK2.out; have := HK3.out; have := HK4.out; have := HJ33.out; have := HJ47.out; omega
                                                  case rel => exact ⟨(t272), (wrap64 (x18_4 + 1)), (by first | rfl | (simp; done) | (simp [*]; done)), H', ⟨by have := HJ4.out; have := HK2.out; have := HK3.out; have := HK4.out; have := HJ33.out; have := HJ47.out; omega⟩, ⟨by (with_reducible repeat (first | apply Kd.R_alloc | apply Kd.R_drewN | apply Kd.R_drew)); exact HO274.out⟩, ⟨by repeat (first | (with_reducible first | exact HB.out | apply below_alloc | apply pw_below_drewN | apply below_drew1) | exact HB.out)⟩⟩
                                                · replace c66 := Bool.eq_false_iff.mpr c66
                                                  subst c66
                                                  have H1 : (some (([] : List (S47)), false)) = some (r1, r2) := by rw [if_neg (show ¬ (false = true) by decide)] at H; exact H
                                                  clear H
                                                  have H := H1
                                                  clear H1
                                                  simp only [Option.some.injEq, Prod.mk.injEq] at H
                                                  obtain ⟨rfl, rfl⟩ := H
                                                  go_wp2_with (first | ((with_reducible refine gate_callee (f := 23) rfl ?_); refine goesL_ (some 179) rfl rfl Try.func23 (by kernel_rfl) rfl #[.string (a0.extract 0 (t253 : Int).toNat), .int .i64 (wrap64 ((wrap64 ((wrap64 ((wrap64 (16 + (wrap64 (6 * (wrap64 (Int.tdiv t252 2)))))) + (wrap64 (2 * x12_3)))) + t261)) + (wrap64 (2 * (wrap64 (x18_4 - t259))))))] rfl (by (try simp only [List.map_toArray, List.map_cons, List.map_nil]); first | done | rfl | (simp only [List.length_drop, List.length_take]; rfl)) ?_; (with_reducible refine (colophonref08_U2.calls (a0.extract 0 (t253 : Int).toNat) (wrap64 ((wrap64 ((wrap64 ((wrap64 (16 + (wrap64 (6 * (wrap64 (Int.tdiv t252 2)))))) + (wrap64 (2 * x12_3)))) + t261)) + (wrap64 (2 * (wrap64 (x18_4 - t259)))))) t267 _ A51.out).mono ?_); rintro e w' ⟨rfl, ⟨nd, rfl⟩⟩; refine ⟨_, rfl, ?_⟩; obtain ⟨Ao69, co69, eo69⟩ := Kd.R_slice HO_11.out; subst eo69) | ((with_reducible refine gate_callee (f := 37) rfl ?_); refine goesL_ (some 190) rfl rfl Try.func37 (by kernel_rfl) rfl #[.slice Ao69 x11_4.length co69, .int .i64 x18_4, .int .i64 (Int.tmod (wrap64 (t267 + t260)) 65536)] rfl (by (try simp only [List.map_toArray, List.map_cons, List.map_nil]); first | done | rfl | (simp only [List.length_drop, List.length_take]; rfl)) ?_; (with_reducible refine (colophonref11_add.calls kj47 (fun k_ => some k_ = (.slice Ao69 x11_4.length co69 : Value).ownBlock) (.slice Ao69 x11_4.length co69) x11_4 x18_4 (Int.tmod (wrap64 (t267 + t260)) 65536) t272 false w _ ?side1 ?side2 A62.out).mono ?_); (case side1 => repeat (first | (with_reducible first | exact HB.out | apply below_alloc | apply pw_below_drewN | apply below_drew1) | exact HB.out)); (case side2 => exact Kd.R_tight rfl HO_11.out); rintro e w70 ⟨v273, rfl, ho0, hb, hkp⟩; refine ⟨_, rfl, ?_⟩; have n0_ := Aside0.mk (Kd.R_mono (ok' := fun k_ => True) ho0 (fun k_ hk_ => trivial)); have n1_ := Aside0.mk (hb); clear HB; clear HO_11; have HO274 := n0_; have HB := n1_; clear n0_ n1_; (try clear hb); (try clear hkp); (try clear ho0)))
                                                  go_ret2
                                                  exact ⟨_, by first | rfl | (simp [errW_none, errW_some] <;> rfl) | (simp [*, errW_none, errW_some] <;> rfl) | (((first | rw [pw_wdiv _ _ (by omega) (by omega)] | rw [pw_wdiv' _ _ (by omega) (by omega)] | rw [Go.IntWalk.wrap64_in _ (by omega)]); repeat (first | rw [pw_wdiv _ _ (by omega) (by omega)] | rw [pw_wdiv' _ _ (by omega) (by omega)] | rw [Go.IntWalk.wrap64_in _ (by omega)])); rfl), by first | exact Kd.R_nil _ _ _ _ _ | exact Kd.N_nil _ _ _ _ _ | exact Kd.V_nil _ _ _ _ _ | exact Kd.Q_nil _ _ _ _ _ | exact Kd.S_nil _ _ _ _ _, by repeat (first | (with_reducible first | exact HB.out | apply below_alloc | apply pw_below_drewN | apply below_drew1) | exact HB.out)⟩
                            · rw [if_neg c33] at H
                              have c33b0 : decide (x18_4 ≤ t258) = false := decide_eq_false c33
                              clear c33
                              have H' := Aside0.mk H
                              clear H
                              go_wp2
                              go_roundg k4
                              case measure => have := HJ4.out; have := HK2.out; have := HK3.out; have := HK4.out; omega
                              case rel => exact ⟨(x11_4), (wrap64 (x12_3 + 1)), (by first | rfl | (simp; done) | (simp [*]; done)), H', ⟨by have := HJ4.out; have := HK2.out; have := HK3.out; have := HK4.out; omega⟩, ⟨by (with_reducible repeat (first | apply Kd.R_alloc | apply Kd.R_drewN | apply Kd.R_drew)); exact HO_11.out⟩, ⟨by repeat (first | (with_reducible first | exact HB.out | apply below_alloc | apply pw_below_drewN | apply below_drew1) | exact HB.out)⟩⟩
                      · rw [if_neg c28] at H
                        have c28b0 : decide (x12_3 < (wrap64 (Int.tdiv t252 2))) = false := decide_eq_false c28
                        (try (have c28b0w := c28b0; ((first | rw [pw_wdiv _ _ (by omega) (by omega)] at c28b0w | rw [pw_wdiv' _ _ (by omega) (by omega)] at c28b0w | rw [Go.IntWalk.wrap64_in _ (by omega)] at c28b0w); repeat (first | rw [pw_wdiv _ _ (by omega) (by omega)] at c28b0w | rw [pw_wdiv' _ _ (by omega) (by omega)] at c28b0w | rw [Go.IntWalk.wrap64_in _ (by omega)] at c28b0w))))
                        clear c28
                        simp only [Option.some.injEq, Prod.mk.injEq] at H
                        obtain ⟨rfl, rfl⟩ := H
                        go_wp2
                        go_ret2
                        exact ⟨_, by first | rfl | (simp [errW_none, errW_some] <;> rfl) | (simp [*, errW_none, errW_some] <;> rfl) | (((first | rw [pw_wdiv _ _ (by omega) (by omega)] | rw [pw_wdiv' _ _ (by omega) (by omega)] | rw [Go.IntWalk.wrap64_in _ (by omega)]); repeat (first | rw [pw_wdiv _ _ (by omega) (by omega)] | rw [pw_wdiv' _ _ (by omega) (by omega)] | rw [Go.IntWalk.wrap64_in _ (by omega)])); rfl), by (with_reducible repeat (first | apply Kd.R_alloc | apply Kd.R_drewN | apply Kd.R_drew)); exact HO_11.out, by repeat (first | (with_reducible first | exact HB.out | apply below_alloc | apply pw_below_drewN | apply below_drew1) | exact HB.out)⟩
          · rw [if_neg c16] at H
            exact absurd H (by simp)
        · rw [if_neg c15] at H
          exact absurd H (by simp)

end Go.Proofs.Ytldcgkkbmnahiaa.Px
