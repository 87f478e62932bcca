-- Lean text written by this session's own program (wip/tools/myprint.py) for this claim
import Derived.Test.YtldcgkkbmnahiaaPxx0
import Derived.Test.YtldcgkkbmnahiaaPxx3
import Derived.Test.YtldcgkkbmnahiaaPxx5
import Derived.Test.YtldcgkkbmnahiaaPxx6
import Derived.Test.YtldcgkkbmnahiaaPxx7
import Derived.Test.YtldcgkkbmnahiaaPxx11
namespace Go.Proofs.Ytldcgkkbmnahiaa.Px
open Go.RowKit Go.Proofs.YtldcgkkbmnahiaaW.PrintWords Go.Proofs.YtldcgkkbmnahiaaW.PrintLast Go.Proofs.YtldcgkkbmnahiaaW.PrintMore
attribute [local go_sem] pw_max2 pw_min2 max_two min_two max_three min_three max_four min_four   -- for this text's walks alone
set_option linter.unusedVariables false
set_option linter.unusedSimpArgs false

/-! ### colophonlaw11_CmapBack: function 6 -/
mutual
def colophonlaw11_CmapBack.j0 : Nat → List (S47) → ByteArray → Int → ByteArray → Int → Bool → Option (Bool)
  | 0, _, _, _, _, _, _ => none
  | k + 1, x0, x3, x4, x5, x6, x43 => if x43 = true then (some false) else (if x4 = 0 then ((cmap_Read.f k x3 4096).bind fun bt421 => (if bt421.2 = 0 then ((colophonlaw11_same.f k bt421.1 x0).bind fun t425 => (if t425 = true then (colophonlaw11_CmapBack.j1 k x0 x5 x6) else (some false))) else (some false))) else (colophonlaw11_CmapBack.j1 k x0 x5 x6))
def colophonlaw11_CmapBack.j1 : Nat → List (S47) → ByteArray → Int → Option (Bool)
  | 0, _, _, _ => none
  | k + 1, x0, x5, x6 => if x6 = 0 then ((cmap_Read.f k x5 4096).bind fun bt426 => (if bt426.2 = 0 then ((colophonlaw11_same.f k bt426.1 x0).bind fun t430 => (if t430 = true then ((colophonlaw11_wakes.f k).bind fun t431 => (some t431)) else (some false))) else (some false))) else ((colophonlaw11_wakes.f k).bind fun t432 => (some t432))
end
def colophonlaw11_CmapBack.f (k : Nat) (l0 : List (S47)) : Option (Bool) := if (l0.length : Int) > 500 then ((colophonlaw11_wakes.f k).bind fun t397 => (some t397)) else ((some (([] : List (S47)) : List (S47))).bind fun y398 => (if y398.length + l0.length < 5864062014805 then ((cmap_Build.f k (y398 ++ l0) true).bind fun bt404 => ((some (([] : List (S47)) : List (S47))).bind fun y406 => (if y406.length + l0.length < 5864062014805 then ((cmap_Build.f k (y406 ++ l0) false).bind fun bt412 => ((some (([] : List (S47)) : List (S47))).bind fun y414 => (if y414.length + l0.length < 5864062014805 then ((cmap_Good.f k (y414 ++ l0) 4096).bind fun t420 => (if ((bt404.2 == 0) != t420) = true then (colophonlaw11_CmapBack.j0 k l0 bt404.1 bt404.2 bt412.1 bt412.2 true) else (if bt412.2 = 0 then (colophonlaw11_CmapBack.j0 k l0 bt404.1 bt404.2 bt412.1 bt412.2 (bt404.2 != 0)) else (colophonlaw11_CmapBack.j0 k l0 bt404.1 bt404.2 bt412.1 bt412.2 false)))) else (none)))) else (none)))) else (none)))
theorem colophonlaw11_CmapBack.mono_l : ∀ k, (∀ y0 y1 y2 y3 y4 y5, LeO (colophonlaw11_CmapBack.j0 k y0 y1 y2 y3 y4 y5) (colophonlaw11_CmapBack.j0 (k + 1) y0 y1 y2 y3 y4 y5)) ∧ (∀ y0 y1 y2, LeO (colophonlaw11_CmapBack.j1 k y0 y1 y2) (colophonlaw11_CmapBack.j1 (k + 1) y0 y1 y2))
  | 0 => ⟨fun _ _ _ _ _ _ r h => by simp [colophonlaw11_CmapBack.j0] at h, fun _ _ _ r h => by simp [colophonlaw11_CmapBack.j1] at h⟩
  | k + 1 => by
    obtain ⟨ih0, ih1⟩ := colophonlaw11_CmapBack.mono_l k
    refine ⟨?_, ?_⟩
    · intro y0 y1 y2 y3 y4 y5
      unfold colophonlaw11_CmapBack.j0
      repeat' first
      | (with_reducible exact ih0 _ _ _ _ _ _)
      | (with_reducible exact ih1 _ _ _)
      | (with_reducible exact cmap_Build.mono _ _ _)
      | (with_reducible exact cmap_Good.mono _ _ _)
      | (with_reducible exact cmap_Read.mono _ _ _)
      | (with_reducible exact colophonlaw11_same.mono _ _ _)
      | (with_reducible exact colophonlaw11_wakes.mono _)
      | (with_reducible exact LeO.refl _)
      | (with_reducible exact LeO.none _)
      | (with_reducible refine LeO.ite ?_ ?_)
      | (with_reducible refine LeO.bind ?_ (fun _ => ?_))
      | exact ih0 _ _ _ _ _ _
      | exact ih1 _ _ _
      | exact cmap_Build.mono _ _ _
      | exact cmap_Good.mono _ _ _
      | exact cmap_Read.mono _ _ _
      | exact colophonlaw11_same.mono _ _ _
      | exact colophonlaw11_wakes.mono _
      | exact LeO.none _
      | refine LeO.ite ?_ ?_
      | refine LeO.bind ?_ (fun _ => ?_)
    · intro y0 y1 y2
      unfold colophonlaw11_CmapBack.j1
      repeat' first
      | (with_reducible exact ih0 _ _ _ _ _ _)
      | (with_reducible exact ih1 _ _ _)
      | (with_reducible exact cmap_Build.mono _ _ _)
      | (with_reducible exact cmap_Good.mono _ _ _)
      | (with_reducible exact cmap_Read.mono _ _ _)
      | (with_reducible exact colophonlaw11_same.mono _ _ _)
      | (with_reducible exact colophonlaw11_wakes.mono _)
      | (with_reducible exact LeO.refl _)
      | (with_reducible exact LeO.none _)
      | (with_reducible refine LeO.ite ?_ ?_)
      | (with_reducible refine LeO.bind ?_ (fun _ => ?_))
      | exact ih0 _ _ _ _ _ _
      | exact ih1 _ _ _
      | exact cmap_Build.mono _ _ _
      | exact cmap_Good.mono _ _ _
      | exact cmap_Read.mono _ _ _
      | exact colophonlaw11_same.mono _ _ _
      | exact colophonlaw11_wakes.mono _
      | exact LeO.none _
      | refine LeO.ite ?_ ?_
      | refine LeO.bind ?_ (fun _ => ?_)
theorem colophonlaw11_CmapBack.mono : ∀ a0 k, LeO (colophonlaw11_CmapBack.f k a0) (colophonlaw11_CmapBack.f (k + 1) a0) := by
  intro a0 k
  obtain ⟨ih0, ih1⟩ := colophonlaw11_CmapBack.mono_l k
  unfold colophonlaw11_CmapBack.f
  repeat' first
      | (with_reducible exact ih0 _ _ _ _ _ _)
      | (with_reducible exact ih1 _ _ _)
      | (with_reducible exact cmap_Build.mono _ _ _)
      | (with_reducible exact cmap_Good.mono _ _ _)
      | (with_reducible exact cmap_Read.mono _ _ _)
      | (with_reducible exact colophonlaw11_same.mono _ _ _)
      | (with_reducible exact colophonlaw11_wakes.mono _)
      | (with_reducible exact LeO.refl _)
      | (with_reducible exact LeO.none _)
      | (with_reducible refine LeO.ite ?_ ?_)
      | (with_reducible refine LeO.bind ?_ (fun _ => ?_))
      | exact ih0 _ _ _ _ _ _
      | exact ih1 _ _ _
      | exact cmap_Build.mono _ _ _
      | exact cmap_Good.mono _ _ _
      | exact cmap_Read.mono _ _ _
      | exact colophonlaw11_same.mono _ _ _
      | exact colophonlaw11_wakes.mono _
      | exact LeO.none _
      | refine LeO.ite ?_ ?_
      | refine LeO.bind ?_ (fun _ => ?_)
set_option maxHeartbeats 8000000 in
set_option maxRecDepth 100000 in
theorem colophonlaw11_CmapBack.calls (k : Nat) (A0 : Option Addr) (c0 : Nat) (l0 : List (S47)) (r : Bool) (w : World) (hr0 : Kd.C k47 w A0 l0.length l0) (hc0 : l0.length ≤ c0) (h : colophonlaw11_CmapBack.f k l0 = some r) :
    Calls Try.prog 6 #[.slice A0 l0.length c0] w fun e w' => e = .returned (.bool r) ∧ Below w.heap.size w w' := by
  have HR0 := Aside0.mk hr0
  have HC0 := Aside0.mk hc0
  clear hr0 hc0
  have HB := Aside0.mk (Below.refl w.heap.size w)
  have H : (if (l0.length : Int) > 500 then ((colophonlaw11_wakes.f k).bind fun t397 => (some t397)) else ((some (([] : List (S47)) : List (S47))).bind fun y398 => (if y398.length + l0.length < 5864062014805 then ((cmap_Build.f k (y398 ++ l0) true).bind fun bt404 => ((some (([] : List (S47)) : List (S47))).bind fun y406 => (if y406.length + l0.length < 5864062014805 then ((cmap_Build.f k (y406 ++ l0) false).bind fun bt412 => ((some (([] : List (S47)) : List (S47))).bind fun y414 => (if y414.length + l0.length < 5864062014805 then ((cmap_Good.f k (y414 ++ l0) 4096).bind fun t420 => (if ((bt404.2 == 0) != t420) = true then (colophonlaw11_CmapBack.j0 k l0 bt404.1 bt404.2 bt412.1 bt412.2 true) else (if bt412.2 = 0 then (colophonlaw11_CmapBack.j0 k l0 bt404.1 bt404.2 bt412.1 bt412.2 (bt404.2 != 0)) else (colophonlaw11_CmapBack.j0 k l0 bt404.1 bt404.2 bt412.1 bt412.2 false)))) else (none)))) else (none)))) else (none)))) = some r := h
  clear h
  by_cases c2 : (l0.length : Int) > 500
  · rw [if_pos c2] at H
    have c2b0 : decide (500 < (l0.length : Int)) = true := decide_eq_true c2
    have c2b1 : decide (500 < l0.length) = true := decide_eq_true (by omega)
    clear c2
    replace H := Option.bind_eq_some_iff.mp H
    obtain ⟨t397, A30, H⟩ := H
    replace H : (some t397) = some r := H
    have A3 := Aside0.mk A30
    clear A30
    obtain rfl := Option.some.inj H
    go_enter Try.func6, Try.ntmps6
    go_wp2_with (first | ((with_reducible refine gate_callee (f := 8) rfl ?_); refine goesL_ (some 14) rfl rfl Try.func8 (by kernel_rfl) rfl #[] rfl (by (try simp only [List.map_toArray, List.map_cons, List.map_nil]); first | done | rfl | (simp only [List.length_drop, List.length_take]; rfl)) ?_; (with_reducible refine (colophonlaw11_wakes.calls k  t397 _ A3.out).mono ?_); rintro e w4 ⟨rfl, hb⟩; refine ⟨_, rfl, ?_⟩; have n0_ := Aside0.mk (below_step (by repeat (first | (with_reducible first | exact HB.out | apply below_alloc | apply pw_below_drewN | apply below_drew1) | exact HB.out)) hb); clear HB; have HB := n0_; clear n0_; (try clear hb); (try clear hb2); (try clear hk); (try clear hi)))
    go_ret
    exact ⟨by first | rfl | (simp [errW_none, errW_some] <;> rfl) | (simp [*, errW_none, errW_some] <;> rfl) | (((first | rw [pw_wdiv _ _ (by omega) (by omega)] | rw [pw_wdiv' _ _ (by omega) (by omega)] | rw [Go.IntWalk.wrap64_in _ (by omega)]); repeat (first | rw [pw_wdiv _ _ (by omega) (by omega)] | rw [pw_wdiv' _ _ (by omega) (by omega)] | rw [Go.IntWalk.wrap64_in _ (by omega)])); rfl), by repeat (first | (with_reducible first | exact HB.out | apply below_alloc | apply pw_below_drewN | apply below_drew1) | exact HB.out)⟩
  · rw [if_neg c2] at H
    have c2b0 : decide (500 < (l0.length : Int)) = false := decide_eq_false c2
    have c2b1 : decide (500 < l0.length) = false := decide_eq_false (by omega)
    clear c2
    obtain ⟨y398, hy398⟩ : ∃ y_ : List (S47), y_ = (([] : List (S47))) := ⟨_, rfl⟩
    replace H : (if y398.length + l0.length < 5864062014805 then ((cmap_Build.f k (y398 ++ l0) true).bind fun bt404 => ((some (([] : List (S47)) : List (S47))).bind fun y406 => (if y406.length + l0.length < 5864062014805 then ((cmap_Build.f k (y406 ++ l0) false).bind fun bt412 => ((some (([] : List (S47)) : List (S47))).bind fun y414 => (if y414.length + l0.length < 5864062014805 then ((cmap_Good.f k (y414 ++ l0) 4096).bind fun t420 => (if ((bt404.2 == 0) != t420) = true then (colophonlaw11_CmapBack.j0 k l0 bt404.1 bt404.2 bt412.1 bt412.2 true) else (if bt412.2 = 0 then (colophonlaw11_CmapBack.j0 k l0 bt404.1 bt404.2 bt412.1 bt412.2 (bt404.2 != 0)) else (colophonlaw11_CmapBack.j0 k l0 bt404.1 bt404.2 bt412.1 bt412.2 false)))) else (none)))) else (none)))) else (none)) = some r := by first | (rw [hy398]; with_reducible exact H) | (have H2_ := (Option.bind_some _ _).symm.trans H; rw [hy398]; with_reducible exact H2_) | (have H2_ := (Option.bind_some _ _).symm.trans H; with_reducible exact H2_) | with_reducible exact H | (rw [hy398]; exact H) | exact H
    have Ny398 := Aside0.mk hy398
    clear hy398
    by_cases c5 : y398.length + l0.length < 5864062014805
    · rw [if_pos c5] at H
      have LMc5 := Aside0.mk c5
      clear c5
      obtain ⟨y401, hy401⟩ : ∃ y_ : List (S47), y_ = (y398 ++ l0) := ⟨_, rfl⟩
      replace H : ((cmap_Build.f k y401 true).bind fun bt404 => ((some (([] : List (S47)) : List (S47))).bind fun y406 => (if y406.length + l0.length < 5864062014805 then ((cmap_Build.f k (y406 ++ l0) false).bind fun bt412 => ((some (([] : List (S47)) : List (S47))).bind fun y414 => (if y414.length + l0.length < 5864062014805 then ((cmap_Good.f k (y414 ++ l0) 4096).bind fun t420 => (if ((bt404.2 == 0) != t420) = true then (colophonlaw11_CmapBack.j0 k l0 bt404.1 bt404.2 bt412.1 bt412.2 true) else (if bt412.2 = 0 then (colophonlaw11_CmapBack.j0 k l0 bt404.1 bt404.2 bt412.1 bt412.2 (bt404.2 != 0)) else (colophonlaw11_CmapBack.j0 k l0 bt404.1 bt404.2 bt412.1 bt412.2 false)))) else (none)))) else (none)))) = some r := by first | (rw [hy401]; with_reducible exact H) | (have H2_ := (Option.bind_some _ _).symm.trans H; rw [hy401]; with_reducible exact H2_) | (have H2_ := (Option.bind_some _ _).symm.trans H; with_reducible exact H2_) | with_reducible exact H | (rw [hy401]; exact H) | exact H
      have Ny401 := Aside0.mk hy401
      clear hy401
      replace H := Option.bind_eq_some_iff.mp H
      obtain ⟨⟨t404, t405⟩, A60, H⟩ := H
      replace H : ((some (([] : List (S47)) : List (S47))).bind fun y406 => (if y406.length + l0.length < 5864062014805 then ((cmap_Build.f k (y406 ++ l0) false).bind fun bt412 => ((some (([] : List (S47)) : List (S47))).bind fun y414 => (if y414.length + l0.length < 5864062014805 then ((cmap_Good.f k (y414 ++ l0) 4096).bind fun t420 => (if ((t405 == 0) != t420) = true then (colophonlaw11_CmapBack.j0 k l0 t404 t405 bt412.1 bt412.2 true) else (if bt412.2 = 0 then (colophonlaw11_CmapBack.j0 k l0 t404 t405 bt412.1 bt412.2 (t405 != 0)) else (colophonlaw11_CmapBack.j0 k l0 t404 t405 bt412.1 bt412.2 false)))) else (none)))) else (none))) = some r := H
      have A6 := Aside0.mk A60
      clear A60
      obtain ⟨y406, hy406⟩ : ∃ y_ : List (S47), y_ = (([] : List (S47))) := ⟨_, rfl⟩
      replace H : (if y406.length + l0.length < 5864062014805 then ((cmap_Build.f k (y406 ++ l0) false).bind fun bt412 => ((some (([] : List (S47)) : List (S47))).bind fun y414 => (if y414.length + l0.length < 5864062014805 then ((cmap_Good.f k (y414 ++ l0) 4096).bind fun t420 => (if ((t405 == 0) != t420) = true then (colophonlaw11_CmapBack.j0 k l0 t404 t405 bt412.1 bt412.2 true) else (if bt412.2 = 0 then (colophonlaw11_CmapBack.j0 k l0 t404 t405 bt412.1 bt412.2 (t405 != 0)) else (colophonlaw11_CmapBack.j0 k l0 t404 t405 bt412.1 bt412.2 false)))) else (none)))) else (none)) = some r := by first | (rw [hy406]; with_reducible exact H) | (have H2_ := (Option.bind_some _ _).symm.trans H; rw [hy406]; with_reducible exact H2_) | (have H2_ := (Option.bind_some _ _).symm.trans H; with_reducible exact H2_) | with_reducible exact H | (rw [hy406]; exact H) | exact H
      have Ny406 := Aside0.mk hy406
      clear hy406
      by_cases c7 : y406.length + l0.length < 5864062014805
      · rw [if_pos c7] at H
        have LMc7 := Aside0.mk c7
        clear c7
        obtain ⟨y409, hy409⟩ : ∃ y_ : List (S47), y_ = (y406 ++ l0) := ⟨_, rfl⟩
        replace H : ((cmap_Build.f k y409 false).bind fun bt412 => ((some (([] : List (S47)) : List (S47))).bind fun y414 => (if y414.length + l0.length < 5864062014805 then ((cmap_Good.f k (y414 ++ l0) 4096).bind fun t420 => (if ((t405 == 0) != t420) = true then (colophonlaw11_CmapBack.j0 k l0 t404 t405 bt412.1 bt412.2 true) else (if bt412.2 = 0 then (colophonlaw11_CmapBack.j0 k l0 t404 t405 bt412.1 bt412.2 (t405 != 0)) else (colophonlaw11_CmapBack.j0 k l0 t404 t405 bt412.1 bt412.2 false)))) else (none)))) = some r := by first | (rw [hy409]; with_reducible exact H) | (have H2_ := (Option.bind_some _ _).symm.trans H; rw [hy409]; with_reducible exact H2_) | (have H2_ := (Option.bind_some _ _).symm.trans H; with_reducible exact H2_) | with_reducible exact H | (rw [hy409]; exact H) | exact H
        have Ny409 := Aside0.mk hy409
        clear hy409
        replace H := Option.bind_eq_some_iff.mp H
        obtain ⟨⟨t412, t413⟩, A80, H⟩ := H
        replace H : ((some (([] : List (S47)) : List (S47))).bind fun y414 => (if y414.length + l0.length < 5864062014805 then ((cmap_Good.f k (y414 ++ l0) 4096).bind fun t420 => (if ((t405 == 0) != t420) = true then (colophonlaw11_CmapBack.j0 k l0 t404 t405 t412 t413 true) else (if t413 = 0 then (colophonlaw11_CmapBack.j0 k l0 t404 t405 t412 t413 (t405 != 0)) else (colophonlaw11_CmapBack.j0 k l0 t404 t405 t412 t413 false)))) else (none))) = some r := H
        have A8 := Aside0.mk A80
        clear A80
        have HC9 := Aside0.mk H
        clear H
        go_enter Try.func6, Try.ntmps6
        go_upto_region 5 with (first | ((with_reducible refine gate_dst (N := 16) rfl ?_); refine Kd.R_lit k47 _ 47 ?hg (N := 16) ?hd (xs := ([] : List (S47))) (inner := []) (ok := fun _ => True) (okp := fun _ => True) ?hr ?hp (fun _ hk => hk) trivial (Below.refl _ _) (Nat.le_refl _) (by simp) ?_; (case hd => rfl); (case hg => rfl); (case hr => first | (go_simp; done) | (go_simp; rfl)); (case hp => exact (Reps.none _ _)); intro v399 w10 ho11 hb hg_ hnew_; clear hg_ hnew_; (first | rw [← Ny398.out] at ho11 | (simp only [Int.reduceToNat] at ho11; rw [← Ny398.out] at ho11)); have n0_ := Aside0.mk (Kd.R_lower ho11 (below_size (by repeat (first | (with_reducible first | exact HB.out | apply below_alloc | apply pw_below_drewN | apply below_drew1) | exact HB.out)))); have n1_ := Aside0.mk (below_step (by repeat (first | (with_reducible first | exact HB.out | apply below_alloc | apply pw_below_drewN | apply below_drew1) | exact HB.out)) hb); clear HB; have HO400 := n0_; have HB := n1_; clear n0_ n1_; clear hb ho11) | ((with_reducible refine gate_builtin (b := .append) (xs := #[.tmp 16, .tmp 17]) rfl ?_); at_builtin; refine Kd.R_append_rows k47 (w0 := w) w.heap.size rfl (.tmp 16) (.tmp 17) 23 47 (.agg #[(.int .i64 0), (.int .i64 0), (.int .i64 0)]) 24 rfl Try.underlying23 info47 rfl (by decide) (by omega) v399 y398 l0 _ _ _ (fun _ => True) (fun _ => False) rfl rfl ?aO ?aR (fun _ _ h => h) (fun _ h => h.elim) ?aF ?aB ?aS ?aL ?_; (case aR => repeat (first | exact (Kd.C_below HR0.out HB.out) | (with_reducible refine Kd.C_alloc ?_ _) | (with_reducible refine Kd.C_drewN ?_ _) | (with_reducible refine Kd.C_drew ?_))); (case aB => exact (by repeat (first | (with_reducible first | exact HB.out | apply below_alloc | apply pw_below_drewN | apply below_drew1) | exact HB.out))); (case aF => exact (fun _ _ => trivial)); (case aO => exact (by (with_reducible repeat (first | apply Kd.R_alloc | apply Kd.R_drewN | apply Kd.R_drew)); exact HO400.out)); (case aS => exact (below_size (by repeat (first | (with_reducible first | exact HB.out | apply below_alloc | apply pw_below_drewN | apply below_drew1) | exact HB.out)))); (case aL => have := LMc5.out; omega); intro v402 w12 ho hb hg hat; rw [← Ny401.out] at ho; have n0_ := Aside0.mk (hb); have n1_ := Aside0.mk (ho); clear HB; clear HO400; have HB := n0_; have HO403 := n1_; clear n0_ n1_; clear ho hb hg hat; obtain ⟨Ao13, co13, eo13⟩ := Kd.R_slice HO403.out; subst eo13) | ((with_reducible refine gate_callee (f := 16) rfl ?_); refine goesL_ (some 19) rfl rfl Try.func16 (by kernel_rfl) rfl #[.slice Ao13 y401.length co13, .bool true] rfl (by (try simp only [List.map_toArray, List.map_cons, List.map_nil]); first | done | rfl | (simp only [List.length_drop, List.length_take]; rfl)) ?_; (with_reducible refine (cmap_Build.calls k _ _ y401 true t404 t405 _ ?side1 ?side2 A6.out).mono ?_); (case side1 => repeat (first | exact (Kd.R_reads' HO403.out).2.2 | (with_reducible refine Kd.C_alloc ?_ _) | (with_reducible refine Kd.C_drewN ?_ _) | (with_reducible refine Kd.C_drew ?_))); (case side2 => exact (Kd.R_reads' HO403.out).2.1); rintro e w14 ⟨rfl, hb⟩; refine ⟨_, rfl, ?_⟩; have n0_ := Aside0.mk (Kd.R_below (by (with_reducible repeat (first | apply Kd.R_alloc | apply Kd.R_drewN | apply Kd.R_drew)); exact HO403.out) hb); have n1_ := Aside0.mk (below_step (by repeat (first | (with_reducible first | exact HB.out | apply below_alloc | apply pw_below_drewN | apply below_drew1) | exact HB.out)) hb); clear HO403; clear HB; have HO403 := n0_; have HB := n1_; clear n0_ n1_; (try clear hb); (try clear hb2); (try clear hk); (try clear hi)) | ((with_reducible refine gate_dst (N := 23) rfl ?_); refine Kd.R_lit k47 _ 47 ?hg (N := 23) ?hd (xs := ([] : List (S47))) (inner := []) (ok := fun _ => True) (okp := fun _ => True) ?hr ?hp (fun _ hk => hk) trivial (Below.refl _ _) (Nat.le_refl _) (by simp) ?_; (case hd => rfl); (case hg => rfl); (case hr => first | (go_simp; done) | (go_simp; rfl)); (case hp => exact (Reps.none _ _)); intro v407 w15 ho16 hb hg_ hnew_; clear hg_ hnew_; (first | rw [← Ny406.out] at ho16 | (simp only [Int.reduceToNat] at ho16; rw [← Ny406.out] at ho16)); have n0_ := Aside0.mk (Kd.R_elder' (by (with_reducible repeat (first | apply Kd.R_alloc | apply Kd.R_drewN | apply Kd.R_drew)); exact HO403.out) (Kd.R_base ho16) hb); have n1_ := Aside0.mk (Kd.R_lower (Kd.R_new' ho16 (Kd.R_lt (by (with_reducible repeat (first | apply Kd.R_alloc | apply Kd.R_drewN | apply Kd.R_drew)); exact HO403.out))) (below_size (by repeat (first | (with_reducible first | exact HB.out | apply below_alloc | apply pw_below_drewN | apply below_drew1) | exact HB.out)))); have n2_ := Aside0.mk (below_step (by repeat (first | (with_reducible first | exact HB.out | apply below_alloc | apply pw_below_drewN | apply below_drew1) | exact HB.out)) hb); clear HO403; clear HB; have HO403 := n0_; have HO408 := n1_; have HB := n2_; clear n0_ n1_ n2_; clear hb ho16) | ((with_reducible refine gate_builtin (b := .append) (xs := #[.tmp 23, .tmp 24]) rfl ?_); at_builtin; refine Kd.R_append_rows k47 (w0 := w) w.heap.size rfl (.tmp 23) (.tmp 24) 23 47 (.agg #[(.int .i64 0), (.int .i64 0), (.int .i64 0)]) 24 rfl Try.underlying23 info47 rfl (by decide) (by omega) v407 y406 l0 _ _ _ (fun k_ => some k_ ≠ (.slice Ao13 y401.length co13 : Value).ownBlock) (fun _ => False) rfl rfl ?aO ?aR (fun _ _ h => h) (fun _ h => h.elim) ?aF ?aB ?aS ?aL ?_; (case aR => repeat (first | exact (Kd.C_below HR0.out HB.out) | (with_reducible refine Kd.C_alloc ?_ _) | (with_reducible refine Kd.C_drewN ?_ _) | (with_reducible refine Kd.C_drew ?_))); (case aB => exact (by repeat (first | (with_reducible first | exact HB.out | apply below_alloc | apply pw_below_drewN | apply below_drew1) | exact HB.out))); (case aF => exact (fun k_ hk => Kd.fresh' (Kd.R_lt (by (with_reducible repeat (first | apply Kd.R_alloc | apply Kd.R_drewN | apply Kd.R_drew)); exact HO403.out)) k_ hk)); (case aO => exact (by (with_reducible repeat (first | apply Kd.R_alloc | apply Kd.R_drewN | apply Kd.R_drew)); exact Kd.R_mono HO408.out (fun _ hk => hk.2))); (case aS => exact (below_size (by repeat (first | (with_reducible first | exact HB.out | apply below_alloc | apply pw_below_drewN | apply below_drew1) | exact HB.out)))); (case aL => have := LMc7.out; omega); intro v410 w17 ho hb hg hat; rw [← Ny409.out] at ho; have n0_ := Aside0.mk (Kd.R_after (ok := (fun _ => True)) (by (with_reducible repeat (first | apply Kd.R_alloc | apply Kd.R_drewN | apply Kd.R_drew)); exact HO403.out) hg hat); have n1_ := Aside0.mk (hb); have n2_ := Aside0.mk (ho); clear HO403; clear HB; clear HO408; have HO403 := n0_; have HB := n1_; have HO411 := n2_; clear n0_ n1_ n2_; clear ho hb hg hat; obtain ⟨Ao18, co18, eo18⟩ := Kd.R_slice HO411.out; subst eo18) | ((with_reducible refine gate_callee (f := 16) rfl ?_); refine goesL_ (some 26) rfl rfl Try.func16 (by kernel_rfl) rfl #[.slice Ao18 y409.length co18, .bool false] rfl (by (try simp only [List.map_toArray, List.map_cons, List.map_nil]); first | done | rfl | (simp only [List.length_drop, List.length_take]; rfl)) ?_; (with_reducible refine (cmap_Build.calls k _ _ y409 false t412 t413 _ ?side1 ?side2 A8.out).mono ?_); (case side1 => repeat (first | exact (Kd.R_reads' HO411.out).2.2 | (with_reducible refine Kd.C_alloc ?_ _) | (with_reducible refine Kd.C_drewN ?_ _) | (with_reducible refine Kd.C_drew ?_))); (case side2 => exact (Kd.R_reads' HO411.out).2.1); rintro e w19 ⟨rfl, hb⟩; refine ⟨_, rfl, ?_⟩; have n0_ := Aside0.mk (Kd.R_below (by (with_reducible repeat (first | apply Kd.R_alloc | apply Kd.R_drewN | apply Kd.R_drew)); exact HO403.out) hb); have n1_ := Aside0.mk (Kd.R_below (by (with_reducible repeat (first | apply Kd.R_alloc | apply Kd.R_drewN | apply Kd.R_drew)); exact HO411.out) hb); have n2_ := Aside0.mk (below_step (by repeat (first | (with_reducible first | exact HB.out | apply below_alloc | apply pw_below_drewN | apply below_drew1) | exact HB.out)) hb); clear HO403; clear HO411; clear HB; have HO403 := n0_; have HO411 := n1_; have HB := n2_; clear n0_ n1_ n2_; (try clear hb); (try clear hb2); (try clear hk); (try clear hi)))
        (try simp only [Act.put, List.setIfInBounds_toArray, List.set_cons_zero, List.set_cons_succ])
        go_cut [43] (fun v43 wc => ∃ (kq : Nat) (x43_8 : Bool), v43 = .bool x43_8 ∧ Aside0 (colophonlaw11_CmapBack.j0 kq l0 t404 t405 t412 t413 x43_8 = some r) ∧ Aside0 (kq ≤ k) ∧ Aside0 (Below w.heap.size w wc))
        case first =>
          have H := HC9.out
          clear HC9
          obtain ⟨y414, hy414⟩ : ∃ y_ : List (S47), y_ = (([] : List (S47))) := ⟨_, rfl⟩
          replace H : (if y414.length + l0.length < 5864062014805 then ((cmap_Good.f k (y414 ++ l0) 4096).bind fun t420 => (if ((t405 == 0) != t420) = true then (colophonlaw11_CmapBack.j0 k l0 t404 t405 t412 t413 true) else (if t413 = 0 then (colophonlaw11_CmapBack.j0 k l0 t404 t405 t412 t413 (t405 != 0)) else (colophonlaw11_CmapBack.j0 k l0 t404 t405 t412 t413 false)))) else (none)) = some r := by first | (rw [hy414]; with_reducible exact H) | (have H2_ := (Option.bind_some _ _).symm.trans H; rw [hy414]; with_reducible exact H2_) | (have H2_ := (Option.bind_some _ _).symm.trans H; with_reducible exact H2_) | with_reducible exact H | (rw [hy414]; exact H) | exact H
          have Ny414 := Aside0.mk hy414
          clear hy414
          by_cases c20 : y414.length + l0.length < 5864062014805
          · rw [if_pos c20] at H
            have LMc20 := Aside0.mk c20
            clear c20
            obtain ⟨y417, hy417⟩ : ∃ y_ : List (S47), y_ = (y414 ++ l0) := ⟨_, rfl⟩
            replace H : ((cmap_Good.f k y417 4096).bind fun t420 => (if ((t405 == 0) != t420) = true then (colophonlaw11_CmapBack.j0 k l0 t404 t405 t412 t413 true) else (if t413 = 0 then (colophonlaw11_CmapBack.j0 k l0 t404 t405 t412 t413 (t405 != 0)) else (colophonlaw11_CmapBack.j0 k l0 t404 t405 t412 t413 false)))) = some r := by first | (rw [hy417]; with_reducible exact H) | (have H2_ := (Option.bind_some _ _).symm.trans H; rw [hy417]; with_reducible exact H2_) | (have H2_ := (Option.bind_some _ _).symm.trans H; with_reducible exact H2_) | with_reducible exact H | (rw [hy417]; exact H) | exact H
            have Ny417 := Aside0.mk hy417
            clear hy417
            replace H := Option.bind_eq_some_iff.mp H
            obtain ⟨t420, A210, H⟩ := H
            replace H : (if ((t405 == 0) != t420) = true then (colophonlaw11_CmapBack.j0 k l0 t404 t405 t412 t413 true) else (if t413 = 0 then (colophonlaw11_CmapBack.j0 k l0 t404 t405 t412 t413 (t405 != 0)) else (colophonlaw11_CmapBack.j0 k l0 t404 t405 t412 t413 false))) = some r := H
            have A21 := Aside0.mk A210
            clear A210
            by_cases c22 : ((t405 == 0) != t420) = true
            · rw [if_pos c22] at H
              have c22b0 : ((t405 == 0) != t420) = true := c22
              (try (have c22b1 : decide ((t405 == 0) = t420) = false := by simpa using c22))
              (try (have c22b2 : ((t405 == 0) == t420) = false := by simpa using c22))
              (try (have c22b3 : ¬ ((t405 == 0) = t420) := by simpa using c22))
              clear c22
              (first | rw [c22b0] | (simp only [i64_w, i32_w]; rw [c22b0]) | skip)
              have H' := Aside0.mk H
              clear H
              go_wp2_with (first | ((with_reducible refine gate_dst (N := 31) rfl ?_); refine Kd.R_lit k47 _ 47 ?hg (N := 31) ?hd (xs := ([] : List (S47))) (inner := []) (ok := fun _ => True) (okp := fun _ => True) ?hr ?hp (fun _ hk => hk) trivial (Below.refl _ _) (Nat.le_refl _) (by simp) ?_; (case hd => rfl); (case hg => rfl); (case hr => first | (go_simp; done) | (go_simp; rfl)); (case hp => exact (Reps.none _ _)); intro v415 w23 ho24 hb hg_ hnew_; clear hg_ hnew_; (first | rw [← Ny414.out] at ho24 | (simp only [Int.reduceToNat] at ho24; rw [← Ny414.out] at ho24)); have n0_ := Aside0.mk (Kd.R_elder' (by (with_reducible repeat (first | apply Kd.R_alloc | apply Kd.R_drewN | apply Kd.R_drew)); exact HO403.out) (Kd.R_base ho24) hb); have n1_ := Aside0.mk (Kd.R_elder' (by (with_reducible repeat (first | apply Kd.R_alloc | apply Kd.R_drewN | apply Kd.R_drew)); exact HO411.out) (Kd.R_base ho24) hb); have n2_ := Aside0.mk (Kd.R_lower (Kd.R_new' (Kd.R_new' ho24 (Kd.R_lt (by (with_reducible repeat (first | apply Kd.R_alloc | apply Kd.R_drewN | apply Kd.R_drew)); exact HO403.out))) (Kd.R_lt (by (with_reducible repeat (first | apply Kd.R_alloc | apply Kd.R_drewN | apply Kd.R_drew)); exact HO411.out))) (below_size (by repeat (first | (with_reducible first | exact HB.out | apply below_alloc | apply pw_below_drewN | apply below_drew1) | exact HB.out)))); have n3_ := Aside0.mk (below_step (by repeat (first | (with_reducible first | exact HB.out | apply below_alloc | apply pw_below_drewN | apply below_drew1) | exact HB.out)) hb); clear HO403; clear HO411; clear HB; have HO403 := n0_; have HO411 := n1_; have HO416 := n2_; have HB := n3_; clear n0_ n1_ n2_ n3_; clear hb ho24) | ((with_reducible refine gate_builtin (b := .append) (xs := #[.tmp 31, .tmp 32]) rfl ?_); at_builtin; refine Kd.R_append_rows k47 (w0 := w) w.heap.size rfl (.tmp 31) (.tmp 32) 23 47 (.agg #[(.int .i64 0), (.int .i64 0), (.int .i64 0)]) 24 rfl Try.underlying23 info47 rfl (by decide) (by omega) v415 y414 l0 _ _ _ (fun k_ => some k_ ≠ (.slice Ao13 y401.length co13 : Value).ownBlock ∧ some k_ ≠ (.slice Ao18 y409.length co18 : Value).ownBlock) (fun _ => False) rfl rfl ?aO ?aR (fun _ _ h => h) (fun _ h => h.elim) ?aF ?aB ?aS ?aL ?_; (case aR => repeat (first | exact (Kd.C_below HR0.out HB.out) | (with_reducible refine Kd.C_alloc ?_ _) | (with_reducible refine Kd.C_drewN ?_ _) | (with_reducible refine Kd.C_drew ?_))); (case aB => exact (by repeat (first | (with_reducible first | exact HB.out | apply below_alloc | apply pw_below_drewN | apply below_drew1) | exact HB.out))); (case aF => exact (fun k_ hk => ⟨Kd.fresh' (Kd.R_lt (by (with_reducible repeat (first | apply Kd.R_alloc | apply Kd.R_drewN | apply Kd.R_drew)); exact HO403.out)) k_ hk, Kd.fresh' (Kd.R_lt (by (with_reducible repeat (first | apply Kd.R_alloc | apply Kd.R_drewN | apply Kd.R_drew)); exact HO411.out)) k_ hk⟩)); (case aO => exact (by (with_reducible repeat (first | apply Kd.R_alloc | apply Kd.R_drewN | apply Kd.R_drew)); exact Kd.R_mono HO416.out (fun _ hk => ⟨hk.1.2, hk.2⟩))); (case aS => exact (below_size (by repeat (first | (with_reducible first | exact HB.out | apply below_alloc | apply pw_below_drewN | apply below_drew1) | exact HB.out)))); (case aL => have := LMc20.out; omega); intro v418 w25 ho hb hg hat; rw [← Ny417.out] at ho; have n0_ := Aside0.mk (Kd.R_after (ok := (fun k_ => some k_ ≠ (.slice Ao18 y409.length co18 : Value).ownBlock)) (by (with_reducible repeat (first | apply Kd.R_alloc | apply Kd.R_drewN | apply Kd.R_drew)); exact Kd.R_mono HO403.out (fun _ hk => ⟨hk.1.2, hk.2⟩)) hg hat); have n1_ := Aside0.mk (Kd.R_after (ok := (fun k_ => some k_ ≠ (.slice Ao13 y401.length co13 : Value).ownBlock)) (by (with_reducible repeat (first | apply Kd.R_alloc | apply Kd.R_drewN | apply Kd.R_drew)); exact HO411.out) hg hat); have n2_ := Aside0.mk (hb); have n3_ := Aside0.mk (ho); clear HO403; clear HO411; clear HB; clear HO416; have HO403 := n0_; have HO411 := n1_; have HB := n2_; have HO419 := n3_; clear n0_ n1_ n2_ n3_; clear ho hb hg hat; obtain ⟨Ao26, co26, eo26⟩ := Kd.R_slice HO419.out; subst eo26) | ((with_reducible refine gate_callee (f := 14) rfl ?_); refine goesL_ (some 34) rfl rfl Try.func14 (by kernel_rfl) rfl #[.slice Ao26 y417.length co26, .int .i64 4096] rfl (by (try simp only [List.map_toArray, List.map_cons, List.map_nil]); first | done | rfl | (simp only [List.length_drop, List.length_take]; rfl)) ?_; (with_reducible refine (cmap_Good.calls k _ _ y417 4096 t420 _ ?side1 ?side2 A21.out).mono ?_); (case side1 => repeat (first | exact (Kd.R_reads' HO419.out).2.2 | (with_reducible refine Kd.C_alloc ?_ _) | (with_reducible refine Kd.C_drewN ?_ _) | (with_reducible refine Kd.C_drew ?_))); (case side2 => exact (Kd.R_reads' HO419.out).2.1); rintro e w27 ⟨rfl, hb⟩; refine ⟨_, rfl, ?_⟩; have n0_ := Aside0.mk (Kd.R_below (by (with_reducible repeat (first | apply Kd.R_alloc | apply Kd.R_drewN | apply Kd.R_drew)); exact HO403.out) hb); have n1_ := Aside0.mk (Kd.R_below (by (with_reducible repeat (first | apply Kd.R_alloc | apply Kd.R_drewN | apply Kd.R_drew)); exact HO411.out) hb); have n2_ := Aside0.mk (Kd.R_below (by (with_reducible repeat (first | apply Kd.R_alloc | apply Kd.R_drewN | apply Kd.R_drew)); exact HO419.out) hb); have n3_ := Aside0.mk (below_step (by repeat (first | (with_reducible first | exact HB.out | apply below_alloc | apply pw_below_drewN | apply below_drew1) | exact HB.out)) hb); clear HO403; clear HO411; clear HO419; clear HB; have HO403 := n0_; have HO411 := n1_; have HO419 := n2_; have HB := n3_; clear n0_ n1_ n2_ n3_; (try clear hb); (try clear hb2); (try clear hk); (try clear hi)))
              go_meet
              case rel => exact ⟨_, (true), (by first | rfl | (simp; done) | (simp [*]; done)), H', ⟨by first | omega | exact Nat.le_refl _⟩, ⟨by repeat (first | (with_reducible first | exact HB.out | apply below_alloc | apply pw_below_drewN | apply below_drew1) | exact HB.out)⟩⟩
            · rw [if_neg c22] at H
              have c22b0 : ((t405 == 0) != t420) = false := by simpa using c22
              (try (have c22b1 : decide ((t405 == 0) = t420) = true := by simpa using c22))
              (try (have c22b2 : ((t405 == 0) == t420) = true := by simpa using c22))
              clear c22
              (first | rw [c22b0] | (simp only [i64_w, i32_w]; rw [c22b0]) | skip)
              by_cases c28 : t413 = 0
              · rw [if_pos c28] at H
                have c28b0 : (t413 == 0) = true := beq_iff_eq.mpr c28
                have c28b1 : (t413 != 0) = false := bne_eq_false_iff_eq.mpr c28
                clear c28
                have H' := Aside0.mk H
                clear H
                go_wp2_with (first | ((with_reducible refine gate_dst (N := 31) rfl ?_); refine Kd.R_lit k47 _ 47 ?hg (N := 31) ?hd (xs := ([] : List (S47))) (inner := []) (ok := fun _ => True) (okp := fun _ => True) ?hr ?hp (fun _ hk => hk) trivial (Below.refl _ _) (Nat.le_refl _) (by simp) ?_; (case hd => rfl); (case hg => rfl); (case hr => first | (go_simp; done) | (go_simp; rfl)); (case hp => exact (Reps.none _ _)); intro v415 w29 ho30 hb hg_ hnew_; clear hg_ hnew_; (first | rw [← Ny414.out] at ho30 | (simp only [Int.reduceToNat] at ho30; rw [← Ny414.out] at ho30)); have n0_ := Aside0.mk (Kd.R_elder' (by (with_reducible repeat (first | apply Kd.R_alloc | apply Kd.R_drewN | apply Kd.R_drew)); exact HO403.out) (Kd.R_base ho30) hb); have n1_ := Aside0.mk (Kd.R_elder' (by (with_reducible repeat (first | apply Kd.R_alloc | apply Kd.R_drewN | apply Kd.R_drew)); exact HO411.out) (Kd.R_base ho30) hb); have n2_ := Aside0.mk (Kd.R_lower (Kd.R_new' (Kd.R_new' ho30 (Kd.R_lt (by (with_reducible repeat (first | apply Kd.R_alloc | apply Kd.R_drewN | apply Kd.R_drew)); exact HO403.out))) (Kd.R_lt (by (with_reducible repeat (first | apply Kd.R_alloc | apply Kd.R_drewN | apply Kd.R_drew)); exact HO411.out))) (below_size (by repeat (first | (with_reducible first | exact HB.out | apply below_alloc | apply pw_below_drewN | apply below_drew1) | exact HB.out)))); have n3_ := Aside0.mk (below_step (by repeat (first | (with_reducible first | exact HB.out | apply below_alloc | apply pw_below_drewN | apply below_drew1) | exact HB.out)) hb); clear HO403; clear HO411; clear HB; have HO403 := n0_; have HO411 := n1_; have HO416 := n2_; have HB := n3_; clear n0_ n1_ n2_ n3_; clear hb ho30) | ((with_reducible refine gate_builtin (b := .append) (xs := #[.tmp 31, .tmp 32]) rfl ?_); at_builtin; refine Kd.R_append_rows k47 (w0 := w) w.heap.size rfl (.tmp 31) (.tmp 32) 23 47 (.agg #[(.int .i64 0), (.int .i64 0), (.int .i64 0)]) 24 rfl Try.underlying23 info47 rfl (by decide) (by omega) v415 y414 l0 _ _ _ (fun k_ => some k_ ≠ (.slice Ao13 y401.length co13 : Value).ownBlock ∧ some k_ ≠ (.slice Ao18 y409.length co18 : Value).ownBlock) (fun _ => False) rfl rfl ?aO ?aR (fun _ _ h => h) (fun _ h => h.elim) ?aF ?aB ?aS ?aL ?_; (case aR => repeat (first | exact (Kd.C_below HR0.out HB.out) | (with_reducible refine Kd.C_alloc ?_ _) | (with_reducible refine Kd.C_drewN ?_ _) | (with_reducible refine Kd.C_drew ?_))); (case aB => exact (by repeat (first | (with_reducible first | exact HB.out | apply below_alloc | apply pw_below_drewN | apply below_drew1) | exact HB.out))); (case aF => exact (fun k_ hk => ⟨Kd.fresh' (Kd.R_lt (by (with_reducible repeat (first | apply Kd.R_alloc | apply Kd.R_drewN | apply Kd.R_drew)); exact HO403.out)) k_ hk, Kd.fresh' (Kd.R_lt (by (with_reducible repeat (first | apply Kd.R_alloc | apply Kd.R_drewN | apply Kd.R_drew)); exact HO411.out)) k_ hk⟩)); (case aO => exact (by (with_reducible repeat (first | apply Kd.R_alloc | apply Kd.R_drewN | apply Kd.R_drew)); exact Kd.R_mono HO416.out (fun _ hk => ⟨hk.1.2, hk.2⟩))); (case aS => exact (below_size (by repeat (first | (with_reducible first | exact HB.out | apply below_alloc | apply pw_below_drewN | apply below_drew1) | exact HB.out)))); (case aL => have := LMc20.out; omega); intro v418 w31 ho hb hg hat; rw [← Ny417.out] at ho; have n0_ := Aside0.mk (Kd.R_after (ok := (fun k_ => some k_ ≠ (.slice Ao18 y409.length co18 : Value).ownBlock)) (by (with_reducible repeat (first | apply Kd.R_alloc | apply Kd.R_drewN | apply Kd.R_drew)); exact Kd.R_mono HO403.out (fun _ hk => ⟨hk.1.2, hk.2⟩)) hg hat); have n1_ := Aside0.mk (Kd.R_after (ok := (fun k_ => some k_ ≠ (.slice Ao13 y401.length co13 : Value).ownBlock)) (by (with_reducible repeat (first | apply Kd.R_alloc | apply Kd.R_drewN | apply Kd.R_drew)); exact HO411.out) hg hat); have n2_ := Aside0.mk (hb); have n3_ := Aside0.mk (ho); clear HO403; clear HO411; clear HB; clear HO416; have HO403 := n0_; have HO411 := n1_; have HB := n2_; have HO419 := n3_; clear n0_ n1_ n2_ n3_; clear ho hb hg hat; obtain ⟨Ao32, co32, eo32⟩ := Kd.R_slice HO419.out; subst eo32) | ((with_reducible refine gate_callee (f := 14) rfl ?_); refine goesL_ (some 34) rfl rfl Try.func14 (by kernel_rfl) rfl #[.slice Ao32 y417.length co32, .int .i64 4096] rfl (by (try simp only [List.map_toArray, List.map_cons, List.map_nil]); first | done | rfl | (simp only [List.length_drop, List.length_take]; rfl)) ?_; (with_reducible refine (cmap_Good.calls k _ _ y417 4096 t420 _ ?side1 ?side2 A21.out).mono ?_); (case side1 => repeat (first | exact (Kd.R_reads' HO419.out).2.2 | (with_reducible refine Kd.C_alloc ?_ _) | (with_reducible refine Kd.C_drewN ?_ _) | (with_reducible refine Kd.C_drew ?_))); (case side2 => exact (Kd.R_reads' HO419.out).2.1); rintro e w33 ⟨rfl, hb⟩; refine ⟨_, rfl, ?_⟩; have n0_ := Aside0.mk (Kd.R_below (by (with_reducible repeat (first | apply Kd.R_alloc | apply Kd.R_drewN | apply Kd.R_drew)); exact HO403.out) hb); have n1_ := Aside0.mk (Kd.R_below (by (with_reducible repeat (first | apply Kd.R_alloc | apply Kd.R_drewN | apply Kd.R_drew)); exact HO411.out) hb); have n2_ := Aside0.mk (Kd.R_below (by (with_reducible repeat (first | apply Kd.R_alloc | apply Kd.R_drewN | apply Kd.R_drew)); exact HO419.out) hb); have n3_ := Aside0.mk (below_step (by repeat (first | (with_reducible first | exact HB.out | apply below_alloc | apply pw_below_drewN | apply below_drew1) | exact HB.out)) hb); clear HO403; clear HO411; clear HO419; clear HB; have HO403 := n0_; have HO411 := n1_; have HO419 := n2_; have HB := n3_; clear n0_ n1_ n2_ n3_; (try clear hb); (try clear hb2); (try clear hk); (try clear hi)))
                go_meet
                case rel => exact ⟨_, ((t405 != 0)), (by first | rfl | (simp; done) | (simp [*]; done)), H', ⟨by first | omega | exact Nat.le_refl _⟩, ⟨by repeat (first | (with_reducible first | exact HB.out | apply below_alloc | apply pw_below_drewN | apply below_drew1) | exact HB.out)⟩⟩
              · rw [if_neg c28] at H
                have c28b0 : (t413 == 0) = false := beq_eq_false_iff_ne.mpr c28
                have c28b1 : (t413 != 0) = true := bne_iff_ne.mpr c28
                have H' := Aside0.mk H
                clear H
                go_wp2_with (first | ((with_reducible refine gate_dst (N := 31) rfl ?_); refine Kd.R_lit k47 _ 47 ?hg (N := 31) ?hd (xs := ([] : List (S47))) (inner := []) (ok := fun _ => True) (okp := fun _ => True) ?hr ?hp (fun _ hk => hk) trivial (Below.refl _ _) (Nat.le_refl _) (by simp) ?_; (case hd => rfl); (case hg => rfl); (case hr => first | (go_simp; done) | (go_simp; rfl)); (case hp => exact (Reps.none _ _)); intro v415 w34 ho35 hb hg_ hnew_; clear hg_ hnew_; (first | rw [← Ny414.out] at ho35 | (simp only [Int.reduceToNat] at ho35; rw [← Ny414.out] at ho35)); have n0_ := Aside0.mk (Kd.R_elder' (by (with_reducible repeat (first | apply Kd.R_alloc | apply Kd.R_drewN | apply Kd.R_drew)); exact HO403.out) (Kd.R_base ho35) hb); have n1_ := Aside0.mk (Kd.R_elder' (by (with_reducible repeat (first | apply Kd.R_alloc | apply Kd.R_drewN | apply Kd.R_drew)); exact HO411.out) (Kd.R_base ho35) hb); have n2_ := Aside0.mk (Kd.R_lower (Kd.R_new' (Kd.R_new' ho35 (Kd.R_lt (by (with_reducible repeat (first | apply Kd.R_alloc | apply Kd.R_drewN | apply Kd.R_drew)); exact HO403.out))) (Kd.R_lt (by (with_reducible repeat (first | apply Kd.R_alloc | apply Kd.R_drewN | apply Kd.R_drew)); exact HO411.out))) (below_size (by repeat (first | (with_reducible first | exact HB.out | apply below_alloc | apply pw_below_drewN | apply below_drew1) | exact HB.out)))); have n3_ := Aside0.mk (below_step (by repeat (first | (with_reducible first | exact HB.out | apply below_alloc | apply pw_below_drewN | apply below_drew1) | exact HB.out)) hb); clear HO403; clear HO411; clear HB; have HO403 := n0_; have HO411 := n1_; have HO416 := n2_; have HB := n3_; clear n0_ n1_ n2_ n3_; clear hb ho35) | ((with_reducible refine gate_builtin (b := .append) (xs := #[.tmp 31, .tmp 32]) rfl ?_); at_builtin; refine Kd.R_append_rows k47 (w0 := w) w.heap.size rfl (.tmp 31) (.tmp 32) 23 47 (.agg #[(.int .i64 0), (.int .i64 0), (.int .i64 0)]) 24 rfl Try.underlying23 info47 rfl (by decide) (by omega) v415 y414 l0 _ _ _ (fun k_ => some k_ ≠ (.slice Ao13 y401.length co13 : Value).ownBlock ∧ some k_ ≠ (.slice Ao18 y409.length co18 : Value).ownBlock) (fun _ => False) rfl rfl ?aO ?aR (fun _ _ h => h) (fun _ h => h.elim) ?aF ?aB ?aS ?aL ?_; (case aR => repeat (first | exact (Kd.C_below HR0.out HB.out) | (with_reducible refine Kd.C_alloc ?_ _) | (with_reducible refine Kd.C_drewN ?_ _) | (with_reducible refine Kd.C_drew ?_))); (case aB => exact (by repeat (first | (with_reducible first | exact HB.out | apply below_alloc | apply pw_below_drewN | apply below_drew1) | exact HB.out))); (case aF => exact (fun k_ hk => ⟨Kd.fresh' (Kd.R_lt (by (with_reducible repeat (first | apply Kd.R_alloc | apply Kd.R_drewN | apply Kd.R_drew)); exact HO403.out)) k_ hk, Kd.fresh' (Kd.R_lt (by (with_reducible repeat (first | apply Kd.R_alloc | apply Kd.R_drewN | apply Kd.R_drew)); exact HO411.out)) k_ hk⟩)); (case aO => exact (by (with_reducible repeat (first | apply Kd.R_alloc | apply Kd.R_drewN | apply Kd.R_drew)); exact Kd.R_mono HO416.out (fun _ hk => ⟨hk.1.2, hk.2⟩))); (case aS => exact (below_size (by repeat (first | (with_reducible first | exact HB.out | apply below_alloc | apply pw_below_drewN | apply below_drew1) | exact HB.out)))); (case aL => have := LMc20.out; omega); intro v418 w36 ho hb hg hat; rw [← Ny417.out] at ho; have n0_ := Aside0.mk (Kd.R_after (ok := (fun k_ => some k_ ≠ (.slice Ao18 y409.length co18 : Value).ownBlock)) (by (with_reducible repeat (first | apply Kd.R_alloc | apply Kd.R_drewN | apply Kd.R_drew)); exact Kd.R_mono HO403.out (fun _ hk => ⟨hk.1.2, hk.2⟩)) hg hat); have n1_ := Aside0.mk (Kd.R_after (ok := (fun k_ => some k_ ≠ (.slice Ao13 y401.length co13 : Value).ownBlock)) (by (with_reducible repeat (first | apply Kd.R_alloc | apply Kd.R_drewN | apply Kd.R_drew)); exact HO411.out) hg hat); have n2_ := Aside0.mk (hb); have n3_ := Aside0.mk (ho); clear HO403; clear HO411; clear HB; clear HO416; have HO403 := n0_; have HO411 := n1_; have HB := n2_; have HO419 := n3_; clear n0_ n1_ n2_ n3_; clear ho hb hg hat; obtain ⟨Ao37, co37, eo37⟩ := Kd.R_slice HO419.out; subst eo37) | ((with_reducible refine gate_callee (f := 14) rfl ?_); refine goesL_ (some 34) rfl rfl Try.func14 (by kernel_rfl) rfl #[.slice Ao37 y417.length co37, .int .i64 4096] rfl (by (try simp only [List.map_toArray, List.map_cons, List.map_nil]); first | done | rfl | (simp only [List.length_drop, List.length_take]; rfl)) ?_; (with_reducible refine (cmap_Good.calls k _ _ y417 4096 t420 _ ?side1 ?side2 A21.out).mono ?_); (case side1 => repeat (first | exact (Kd.R_reads' HO419.out).2.2 | (with_reducible refine Kd.C_alloc ?_ _) | (with_reducible refine Kd.C_drewN ?_ _) | (with_reducible refine Kd.C_drew ?_))); (case side2 => exact (Kd.R_reads' HO419.out).2.1); rintro e w38 ⟨rfl, hb⟩; refine ⟨_, rfl, ?_⟩; have n0_ := Aside0.mk (Kd.R_below (by (with_reducible repeat (first | apply Kd.R_alloc | apply Kd.R_drewN | apply Kd.R_drew)); exact HO403.out) hb); have n1_ := Aside0.mk (Kd.R_below (by (with_reducible repeat (first | apply Kd.R_alloc | apply Kd.R_drewN | apply Kd.R_drew)); exact HO411.out) hb); have n2_ := Aside0.mk (Kd.R_below (by (with_reducible repeat (first | apply Kd.R_alloc | apply Kd.R_drewN | apply Kd.R_drew)); exact HO419.out) hb); have n3_ := Aside0.mk (below_step (by repeat (first | (with_reducible first | exact HB.out | apply below_alloc | apply pw_below_drewN | apply below_drew1) | exact HB.out)) hb); clear HO403; clear HO411; clear HO419; clear HB; have HO403 := n0_; have HO411 := n1_; have HO419 := n2_; have HB := n3_; clear n0_ n1_ n2_ n3_; (try clear hb); (try clear hb2); (try clear hk); (try clear hi)))
                go_meet
                case rel => exact ⟨_, (false), (by first | rfl | (simp; done) | (simp [*]; done)), H', ⟨by first | omega | exact Nat.le_refl _⟩, ⟨by repeat (first | (with_reducible first | exact HB.out | apply below_alloc | apply pw_below_drewN | apply below_drew1) | exact HB.out)⟩⟩
          · rw [if_neg c20] at H
            exact absurd H (by simp)
        case rest =>
          clear HC9
          try clear c1
          try clear c2
          try clear c2b0
          try clear c2b1
          try clear p2
          try clear c5
          try clear c6
          try clear p6
          try clear c7
          try clear c8
          try clear c14
          try clear c16
          try clear c20
          try clear c22
          try clear c22b0
          try clear c22b1
          try clear c22b2
          try clear c28
          try clear c28b0
          try clear c28b1
          obtain ⟨kq, x43_8, rfl, HA, HJ8, HB⟩ := hcut
          cases kq with
          | zero => exact absurd HA.out (by simp [colophonlaw11_CmapBack.j0])
          | succ kj8 =>
            have H := HA.out
            clear HA
            simp only [colophonlaw11_CmapBack.j0] at H
            by_cases c39 : x43_8 = true
            · subst c39
              have H1 : (some false) = some r := by rw [if_pos rfl] at H; exact H
              clear H
              have H := H1
              clear H1
              obtain rfl := Option.some.inj H
              go_wp2
              go_ret
              exact ⟨by first | rfl | (simp [errW_none, errW_some] <;> rfl) | (simp [*, errW_none, errW_some] <;> rfl) | (((first | rw [pw_wdiv _ _ (by omega) (by omega)] | rw [pw_wdiv' _ _ (by omega) (by omega)] | rw [Go.IntWalk.wrap64_in _ (by omega)]); repeat (first | rw [pw_wdiv _ _ (by omega) (by omega)] | rw [pw_wdiv' _ _ (by omega) (by omega)] | rw [Go.IntWalk.wrap64_in _ (by omega)])); rfl), by repeat (first | (with_reducible first | exact HB.out | apply below_alloc | apply pw_below_drewN | apply below_drew1) | exact HB.out)⟩
            · replace c39 := Bool.eq_false_iff.mpr c39
              subst c39
              have H1 : (if t405 = 0 then ((cmap_Read.f kj8 t404 4096).bind fun bt421 => (if bt421.2 = 0 then ((colophonlaw11_same.f kj8 bt421.1 l0).bind fun t425 => (if t425 = true then (colophonlaw11_CmapBack.j1 kj8 l0 t412 t413) else (some false))) else (some false))) else (colophonlaw11_CmapBack.j1 kj8 l0 t412 t413)) = some r := by rw [if_neg (show ¬ (false = true) by decide)] at H; exact H
              clear H
              have H := H1
              clear H1
              have HC40 := Aside0.mk H
              clear H
              go_upto_if 45 with (fail)
              go_cut [] (fun wc => ∃ (kq : Nat), Aside0 (colophonlaw11_CmapBack.j1 kq l0 t412 t413 = some r) ∧ Aside0 (kq ≤ kj8) ∧ Aside0 (Below w.heap.size w wc))
              case first =>
                have H := HC40.out
                clear HC40
                by_cases c41 : t405 = 0
                · rw [if_pos c41] at H
                  have c41b0 : (t405 == 0) = true := beq_iff_eq.mpr c41
                  have c41b1 : (t405 != 0) = false := bne_eq_false_iff_eq.mpr c41
                  clear c41
                  (first | rw [c41b0] | (simp only [i64_w, i32_w]; rw [c41b0]) | skip)
                  replace H := Option.bind_eq_some_iff.mp H
                  obtain ⟨⟨t421, t422⟩, A420, H⟩ := H
                  replace H : (if t422 = 0 then ((colophonlaw11_same.f kj8 t421 l0).bind fun t425 => (if t425 = true then (colophonlaw11_CmapBack.j1 kj8 l0 t412 t413) else (some false))) else (some false)) = some r := H
                  have A42 := Aside0.mk A420
                  clear A420
                  by_cases c43 : t422 = 0
                  · rw [if_pos c43] at H
                    have c43b0 : (t422 == 0) = true := beq_iff_eq.mpr c43
                    have c43b1 : (t422 != 0) = false := bne_eq_false_iff_eq.mpr c43
                    clear c43
                    replace H := Option.bind_eq_some_iff.mp H
                    obtain ⟨t425, A440, H⟩ := H
                    replace H : (if t425 = true then (colophonlaw11_CmapBack.j1 kj8 l0 t412 t413) else (some false)) = some r := H
                    have A44 := Aside0.mk A440
                    clear A440
                    by_cases c45 : t425 = true
                    · subst c45
                      have H1 : (colophonlaw11_CmapBack.j1 kj8 l0 t412 t413) = some r := by rw [if_pos rfl] at H; exact H
                      clear H
                      have H := H1
                      clear H1
                      have H' := Aside0.mk H
                      clear H
                      go_wp2_with (first | ((with_reducible refine gate_callee (f := 9) rfl ?_); refine goesL_ (some 48) rfl rfl Try.func9 (by kernel_rfl) rfl #[.string t404, .int .i64 4096] rfl (by (try simp only [List.map_toArray, List.map_cons, List.map_nil]); first | done | rfl | (simp only [List.length_drop, List.length_take]; rfl)) ?_; (with_reducible refine (cmap_Read.calls kj8 t404 4096 t421 t422 _ A42.out).mono ?_); rintro e w46 ⟨v423, rfl, ho0, hb⟩; refine ⟨_, rfl, ?_⟩; have n0_ := Aside0.mk (Kd.R_lower ho0 (below_size (by repeat (first | (with_reducible first | exact HB.out | apply below_alloc | apply pw_below_drewN | apply below_drew1) | exact HB.out)))); have n1_ := Aside0.mk (below_step (by repeat (first | (with_reducible first | exact HB.out | apply below_alloc | apply pw_below_drewN | apply below_drew1) | exact HB.out)) hb); clear HB; have HO424 := n0_; have HB := n1_; clear n0_ n1_; (try clear hb); (try clear hb2); (try clear hk); (try clear hi); (try clear ho0); obtain ⟨Ao47, co47, eo47⟩ := Kd.R_slice HO424.out; subst eo47) | (go_at_call 11; (with_reducible refine (colophonlaw11_same.calls kj8 _ _ t421 _ _ l0 true _ ?side1 ?side2 ?side3 ?side4 A44.out).mono ?_); (case side1 => repeat (first | exact (Kd.R_reads' HO424.out).2.2 | (with_reducible refine Kd.C_alloc ?_ _) | (with_reducible refine Kd.C_drewN ?_ _) | (with_reducible refine Kd.C_drew ?_))); (case side2 => exact (Kd.R_reads' HO424.out).2.1); (case side3 => repeat (first | exact (Kd.C_below HR0.out HB.out) | (with_reducible refine Kd.C_alloc ?_ _) | (with_reducible refine Kd.C_drewN ?_ _) | (with_reducible refine Kd.C_drew ?_))); (case side4 => exact HC0.out); rintro e w' ⟨rfl, ⟨nd, rfl⟩⟩))
                      go_meet
                      case rel => exact ⟨_, H', ⟨by have := HJ8.out; first | omega | exact Nat.le_refl _⟩, ⟨by repeat (first | (with_reducible first | exact HB.out | apply below_alloc | apply pw_below_drewN | apply below_drew1) | exact HB.out)⟩⟩
                    · replace c45 := Bool.eq_false_iff.mpr c45
                      subst c45
                      have H1 : (some false) = some r := by rw [if_neg (show ¬ (false = true) by decide)] at H; exact H
                      clear H
                      have H := H1
                      clear H1
                      obtain rfl := Option.some.inj H
                      go_wp2_with (first | ((with_reducible refine gate_callee (f := 9) rfl ?_); refine goesL_ (some 48) rfl rfl Try.func9 (by kernel_rfl) rfl #[.string t404, .int .i64 4096] rfl (by (try simp only [List.map_toArray, List.map_cons, List.map_nil]); first | done | rfl | (simp only [List.length_drop, List.length_take]; rfl)) ?_; (with_reducible refine (cmap_Read.calls kj8 t404 4096 t421 t422 _ A42.out).mono ?_); rintro e w48 ⟨v423, rfl, ho0, hb⟩; refine ⟨_, rfl, ?_⟩; have n0_ := Aside0.mk (Kd.R_lower ho0 (below_size (by repeat (first | (with_reducible first | exact HB.out | apply below_alloc | apply pw_below_drewN | apply below_drew1) | exact HB.out)))); have n1_ := Aside0.mk (below_step (by repeat (first | (with_reducible first | exact HB.out | apply below_alloc | apply pw_below_drewN | apply below_drew1) | exact HB.out)) hb); clear HB; have HO424 := n0_; have HB := n1_; clear n0_ n1_; (try clear hb); (try clear hb2); (try clear hk); (try clear hi); (try clear ho0); obtain ⟨Ao49, co49, eo49⟩ := Kd.R_slice HO424.out; subst eo49) | (go_at_call 11; (with_reducible refine (colophonlaw11_same.calls kj8 _ _ t421 _ _ l0 false _ ?side1 ?side2 ?side3 ?side4 A44.out).mono ?_); (case side1 => repeat (first | exact (Kd.R_reads' HO424.out).2.2 | (with_reducible refine Kd.C_alloc ?_ _) | (with_reducible refine Kd.C_drewN ?_ _) | (with_reducible refine Kd.C_drew ?_))); (case side2 => exact (Kd.R_reads' HO424.out).2.1); (case side3 => repeat (first | exact (Kd.C_below HR0.out HB.out) | (with_reducible refine Kd.C_alloc ?_ _) | (with_reducible refine Kd.C_drewN ?_ _) | (with_reducible refine Kd.C_drew ?_))); (case side4 => exact HC0.out); rintro e w' ⟨rfl, ⟨nd, rfl⟩⟩))
                      go_ret
                      exact ⟨by first | rfl | (simp [errW_none, errW_some] <;> rfl) | (simp [*, errW_none, errW_some] <;> rfl) | (((first | rw [pw_wdiv _ _ (by omega) (by omega)] | rw [pw_wdiv' _ _ (by omega) (by omega)] | rw [Go.IntWalk.wrap64_in _ (by omega)]); repeat (first | rw [pw_wdiv _ _ (by omega) (by omega)] | rw [pw_wdiv' _ _ (by omega) (by omega)] | rw [Go.IntWalk.wrap64_in _ (by omega)])); rfl), by repeat (first | (with_reducible first | exact HB.out | apply below_alloc | apply pw_below_drewN | apply below_drew1) | exact HB.out)⟩
                  · rw [if_neg c43] at H
                    have c43b0 : (t422 == 0) = false := beq_eq_false_iff_ne.mpr c43
                    have c43b1 : (t422 != 0) = true := bne_iff_ne.mpr c43
                    obtain rfl := Option.some.inj H
                    go_wp2_with (first | ((with_reducible refine gate_callee (f := 9) rfl ?_); refine goesL_ (some 48) rfl rfl Try.func9 (by kernel_rfl) rfl #[.string t404, .int .i64 4096] rfl (by (try simp only [List.map_toArray, List.map_cons, List.map_nil]); first | done | rfl | (simp only [List.length_drop, List.length_take]; rfl)) ?_; (with_reducible refine (cmap_Read.calls kj8 t404 4096 t421 t422 _ A42.out).mono ?_); rintro e w50 ⟨v423, rfl, ho0, hb⟩; refine ⟨_, rfl, ?_⟩; have n0_ := Aside0.mk (Kd.R_lower ho0 (below_size (by repeat (first | (with_reducible first | exact HB.out | apply below_alloc | apply pw_below_drewN | apply below_drew1) | exact HB.out)))); have n1_ := Aside0.mk (below_step (by repeat (first | (with_reducible first | exact HB.out | apply below_alloc | apply pw_below_drewN | apply below_drew1) | exact HB.out)) hb); clear HB; have HO424 := n0_; have HB := n1_; clear n0_ n1_; (try clear hb); (try clear hb2); (try clear hk); (try clear hi); (try clear ho0)))
                    go_ret
                    exact ⟨by first | rfl | (simp [errW_none, errW_some] <;> rfl) | (simp [*, errW_none, errW_some] <;> rfl) | (((first | rw [pw_wdiv _ _ (by omega) (by omega)] | rw [pw_wdiv' _ _ (by omega) (by omega)] | rw [Go.IntWalk.wrap64_in _ (by omega)]); repeat (first | rw [pw_wdiv _ _ (by omega) (by omega)] | rw [pw_wdiv' _ _ (by omega) (by omega)] | rw [Go.IntWalk.wrap64_in _ (by omega)])); rfl), by repeat (first | (with_reducible first | exact HB.out | apply below_alloc | apply pw_below_drewN | apply below_drew1) | exact HB.out)⟩
                · rw [if_neg c41] at H
                  have c41b0 : (t405 == 0) = false := beq_eq_false_iff_ne.mpr c41
                  have c41b1 : (t405 != 0) = true := bne_iff_ne.mpr c41
                  (first | rw [c41b0] | (simp only [i64_w, i32_w]; rw [c41b0]) | skip)
                  have H' := Aside0.mk H
                  clear H
                  go_wp2
                  go_meet
                  case rel => exact ⟨_, H', ⟨by have := HJ8.out; first | omega | exact Nat.le_refl _⟩, ⟨by repeat (first | (with_reducible first | exact HB.out | apply below_alloc | apply pw_below_drewN | apply below_drew1) | exact HB.out)⟩⟩
              case rest =>
                clear HC40
                try clear c1
                try clear c2
                try clear c2b0
                try clear c2b1
                try clear p2
                try clear c3
                try clear c4
                try clear c5
                try clear c6
                try clear p6
                try clear c7
                try clear c8
                try clear c9
                try clear c14
                try clear c16
                try clear c20
                try clear c22
                try clear c22b0
                try clear c22b1
                try clear c22b2
                try clear c28
                try clear c28b0
                try clear c28b1
                try clear c39
                try clear c41
                try clear c41b0
                try clear c41b1
                try clear c43
                try clear c43b0
                try clear c43b1
                try clear c45
                try clear p2
                try clear p6
                obtain ⟨kq, HA, HJ39, HB⟩ := hcut
                cases kq with
                | zero => exact absurd HA.out (by simp [colophonlaw11_CmapBack.j1])
                | succ kj39 =>
                  have H := HA.out
                  clear HA
                  simp only [colophonlaw11_CmapBack.j1] at H
                  by_cases c51 : t413 = 0
                  · rw [if_pos c51] at H
                    have c51b0 : (t413 == 0) = true := beq_iff_eq.mpr c51
                    have c51b1 : (t413 != 0) = false := bne_eq_false_iff_eq.mpr c51
                    clear c51
                    replace H := Option.bind_eq_some_iff.mp H
                    obtain ⟨⟨t426, t427⟩, A520, H⟩ := H
                    replace H : (if t427 = 0 then ((colophonlaw11_same.f kj39 t426 l0).bind fun t430 => (if t430 = true then ((colophonlaw11_wakes.f kj39).bind fun t431 => (some t431)) else (some false))) else (some false)) = some r := H
                    have A52 := Aside0.mk A520
                    clear A520
                    by_cases c53 : t427 = 0
                    · rw [if_pos c53] at H
                      have c53b0 : (t427 == 0) = true := beq_iff_eq.mpr c53
                      have c53b1 : (t427 != 0) = false := bne_eq_false_iff_eq.mpr c53
                      clear c53
                      replace H := Option.bind_eq_some_iff.mp H
                      obtain ⟨t430, A540, H⟩ := H
                      replace H : (if t430 = true then ((colophonlaw11_wakes.f kj39).bind fun t431 => (some t431)) else (some false)) = some r := H
                      have A54 := Aside0.mk A540
                      clear A540
                      by_cases c55 : t430 = true
                      · subst c55
                        have H1 : ((colophonlaw11_wakes.f kj39).bind fun t431 => (some t431)) = some r := by rw [if_pos rfl] at H; exact H
                        clear H
                        have H := H1
                        clear H1
                        replace H := Option.bind_eq_some_iff.mp H
                        obtain ⟨t431, A560, H⟩ := H
                        replace H : (some t431) = some r := H
                        have A56 := Aside0.mk A560
                        clear A560
                        obtain rfl := Option.some.inj H
                        go_wp2_with (first | ((with_reducible refine gate_callee (f := 9) rfl ?_); refine goesL_ (some 63) rfl rfl Try.func9 (by kernel_rfl) rfl #[.string t412, .int .i64 4096] rfl (by (try simp only [List.map_toArray, List.map_cons, List.map_nil]); first | done | rfl | (simp only [List.length_drop, List.length_take]; rfl)) ?_; (with_reducible refine (cmap_Read.calls kj39 t412 4096 t426 t427 _ A52.out).mono ?_); rintro e w57 ⟨v428, rfl, ho0, hb⟩; refine ⟨_, rfl, ?_⟩; have n0_ := Aside0.mk (Kd.R_lower ho0 (below_size (by repeat (first | (with_reducible first | exact HB.out | apply below_alloc | apply pw_below_drewN | apply below_drew1) | exact HB.out)))); have n1_ := Aside0.mk (below_step (by repeat (first | (with_reducible first | exact HB.out | apply below_alloc | apply pw_below_drewN | apply below_drew1) | exact HB.out)) hb); clear HB; have HO429 := n0_; have HB := n1_; clear n0_ n1_; (try clear hb); (try clear hb2); (try clear hk); (try clear hi); (try clear ho0); obtain ⟨Ao58, co58, eo58⟩ := Kd.R_slice HO429.out; subst eo58) | (go_at_call 11; (with_reducible refine (colophonlaw11_same.calls kj39 _ _ t426 _ _ l0 true _ ?side1 ?side2 ?side3 ?side4 A54.out).mono ?_); (case side1 => repeat (first | exact (Kd.R_reads' HO429.out).2.2 | (with_reducible refine Kd.C_alloc ?_ _) | (with_reducible refine Kd.C_drewN ?_ _) | (with_reducible refine Kd.C_drew ?_))); (case side2 => exact (Kd.R_reads' HO429.out).2.1); (case side3 => repeat (first | exact (Kd.C_below HR0.out HB.out) | (with_reducible refine Kd.C_alloc ?_ _) | (with_reducible refine Kd.C_drewN ?_ _) | (with_reducible refine Kd.C_drew ?_))); (case side4 => exact HC0.out); rintro e w' ⟨rfl, ⟨nd, rfl⟩⟩) | ((with_reducible refine gate_callee (f := 8) rfl ?_); refine goesL_ (some 74) rfl rfl Try.func8 (by kernel_rfl) rfl #[] rfl (by (try simp only [List.map_toArray, List.map_cons, List.map_nil]); first | done | rfl | (simp only [List.length_drop, List.length_take]; rfl)) ?_; (with_reducible refine (colophonlaw11_wakes.calls kj39  t431 _ A56.out).mono ?_); rintro e w59 ⟨rfl, hb⟩; refine ⟨_, rfl, ?_⟩; have n0_ := Aside0.mk (Kd.R_below (by (with_reducible repeat (first | apply Kd.R_alloc | apply Kd.R_drewN | apply Kd.R_drew)); exact HO429.out) hb); have n1_ := Aside0.mk (below_step (by repeat (first | (with_reducible first | exact HB.out | apply below_alloc | apply pw_below_drewN | apply below_drew1) | exact HB.out)) hb); clear HO429; clear HB; have HO429 := n0_; have HB := n1_; clear n0_ n1_; (try clear hb); (try clear hb2); (try clear hk); (try clear hi)))
                        go_ret
                        exact ⟨by first | rfl | (simp [errW_none, errW_some] <;> rfl) | (simp [*, errW_none, errW_some] <;> rfl) | (((first | rw [pw_wdiv _ _ (by omega) (by omega)] | rw [pw_wdiv' _ _ (by omega) (by omega)] | rw [Go.IntWalk.wrap64_in _ (by omega)]); repeat (first | rw [pw_wdiv _ _ (by omega) (by omega)] | rw [pw_wdiv' _ _ (by omega) (by omega)] | rw [Go.IntWalk.wrap64_in _ (by omega)])); rfl), by repeat (first | (with_reducible first | exact HB.out | apply below_alloc | apply pw_below_drewN | apply below_drew1) | exact HB.out)⟩
                      · replace c55 := Bool.eq_false_iff.mpr c55
                        subst c55
                        have H1 : (some false) = some r := by rw [if_neg (show ¬ (false = true) by decide)] at H; exact H
                        clear H
                        have H := H1
                        clear H1
                        obtain rfl := Option.some.inj H
                        go_wp2_with (first | ((with_reducible refine gate_callee (f := 9) rfl ?_); refine goesL_ (some 63) rfl rfl Try.func9 (by kernel_rfl) rfl #[.string t412, .int .i64 4096] rfl (by (try simp only [List.map_toArray, List.map_cons, List.map_nil]); first | done | rfl | (simp only [List.length_drop, List.length_take]; rfl)) ?_; (with_reducible refine (cmap_Read.calls kj39 t412 4096 t426 t427 _ A52.out).mono ?_); rintro e w60 ⟨v428, rfl, ho0, hb⟩; refine ⟨_, rfl, ?_⟩; have n0_ := Aside0.mk (Kd.R_lower ho0 (below_size (by repeat (first | (with_reducible first | exact HB.out | apply below_alloc | apply pw_below_drewN | apply below_drew1) | exact HB.out)))); have n1_ := Aside0.mk (below_step (by repeat (first | (with_reducible first | exact HB.out | apply below_alloc | apply pw_below_drewN | apply below_drew1) | exact HB.out)) hb); clear HB; have HO429 := n0_; have HB := n1_; clear n0_ n1_; (try clear hb); (try clear hb2); (try clear hk); (try clear hi); (try clear ho0); obtain ⟨Ao61, co61, eo61⟩ := Kd.R_slice HO429.out; subst eo61) | (go_at_call 11; (with_reducible refine (colophonlaw11_same.calls kj39 _ _ t426 _ _ l0 false _ ?side1 ?side2 ?side3 ?side4 A54.out).mono ?_); (case side1 => repeat (first | exact (Kd.R_reads' HO429.out).2.2 | (with_reducible refine Kd.C_alloc ?_ _) | (with_reducible refine Kd.C_drewN ?_ _) | (with_reducible refine Kd.C_drew ?_))); (case side2 => exact (Kd.R_reads' HO429.out).2.1); (case side3 => repeat (first | exact (Kd.C_below HR0.out HB.out) | (with_reducible refine Kd.C_alloc ?_ _) | (with_reducible refine Kd.C_drewN ?_ _) | (with_reducible refine Kd.C_drew ?_))); (case side4 => exact HC0.out); rintro e w' ⟨rfl, ⟨nd, rfl⟩⟩))
                        go_ret
                        exact ⟨by first | rfl | (simp [errW_none, errW_some] <;> rfl) | (simp [*, errW_none, errW_some] <;> rfl) | (((first | rw [pw_wdiv _ _ (by omega) (by omega)] | rw [pw_wdiv' _ _ (by omega) (by omega)] | rw [Go.IntWalk.wrap64_in _ (by omega)]); repeat (first | rw [pw_wdiv _ _ (by omega) (by omega)] | rw [pw_wdiv' _ _ (by omega) (by omega)] | rw [Go.IntWalk.wrap64_in _ (by omega)])); rfl), by repeat (first | (with_reducible first | exact HB.out | apply below_alloc | apply pw_below_drewN | apply below_drew1) | exact HB.out)⟩
                    · rw [if_neg c53] at H
                      have c53b0 : (t427 == 0) = false := beq_eq_false_iff_ne.mpr c53
                      have c53b1 : (t427 != 0) = true := bne_iff_ne.mpr c53
                      obtain rfl := Option.some.inj H
                      go_wp2_with (first | ((with_reducible refine gate_callee (f := 9) rfl ?_); refine goesL_ (some 63) rfl rfl Try.func9 (by kernel_rfl) rfl #[.string t412, .int .i64 4096] rfl (by (try simp only [List.map_toArray, List.map_cons, List.map_nil]); first | done | rfl | (simp only [List.length_drop, List.length_take]; rfl)) ?_; (with_reducible refine (cmap_Read.calls kj39 t412 4096 t426 t427 _ A52.out).mono ?_); rintro e w62 ⟨v428, rfl, ho0, hb⟩; refine ⟨_, rfl, ?_⟩; have n0_ := Aside0.mk (Kd.R_lower ho0 (below_size (by repeat (first | (with_reducible first | exact HB.out | apply below_alloc | apply pw_below_drewN | apply below_drew1) | exact HB.out)))); have n1_ := Aside0.mk (below_step (by repeat (first | (with_reducible first | exact HB.out | apply below_alloc | apply pw_below_drewN | apply below_drew1) | exact HB.out)) hb); clear HB; have HO429 := n0_; have HB := n1_; clear n0_ n1_; (try clear hb); (try clear hb2); (try clear hk); (try clear hi); (try clear ho0)))
                      go_ret
                      exact ⟨by first | rfl | (simp [errW_none, errW_some] <;> rfl) | (simp [*, errW_none, errW_some] <;> rfl) | (((first | rw [pw_wdiv _ _ (by omega) (by omega)] | rw [pw_wdiv' _ _ (by omega) (by omega)] | rw [Go.IntWalk.wrap64_in _ (by omega)]); repeat (first | rw [pw_wdiv _ _ (by omega) (by omega)] | rw [pw_wdiv' _ _ (by omega) (by omega)] | rw [Go.IntWalk.wrap64_in _ (by omega)])); rfl), by repeat (first | (with_reducible first | exact HB.out | apply below_alloc | apply pw_below_drewN | apply below_drew1) | exact HB.out)⟩
                  · rw [if_neg c51] at H
                    have c51b0 : (t413 == 0) = false := beq_eq_false_iff_ne.mpr c51
                    have c51b1 : (t413 != 0) = true := bne_iff_ne.mpr c51
                    replace H := Option.bind_eq_some_iff.mp H
                    obtain ⟨t432, A630, H⟩ := H
                    replace H : (some t432) = some r := H
                    have A63 := Aside0.mk A630
                    clear A630
                    obtain rfl := Option.some.inj H
                    go_wp2_with (first | ((with_reducible refine gate_callee (f := 8) rfl ?_); refine goesL_ (some 74) rfl rfl Try.func8 (by kernel_rfl) rfl #[] rfl (by (try simp only [List.map_toArray, List.map_cons, List.map_nil]); first | done | rfl | (simp only [List.length_drop, List.length_take]; rfl)) ?_; (with_reducible refine (colophonlaw11_wakes.calls kj39  t432 _ A63.out).mono ?_); rintro e w64 ⟨rfl, hb⟩; refine ⟨_, rfl, ?_⟩; have n0_ := Aside0.mk (below_step (by repeat (first | (with_reducible first | exact HB.out | apply below_alloc | apply pw_below_drewN | apply below_drew1) | exact HB.out)) hb); clear HB; have HB := n0_; clear n0_; (try clear hb); (try clear hb2); (try clear hk); (try clear hi)))
                    go_ret
                    exact ⟨by first | rfl | (simp [errW_none, errW_some] <;> rfl) | (simp [*, errW_none, errW_some] <;> rfl) | (((first | rw [pw_wdiv _ _ (by omega) (by omega)] | rw [pw_wdiv' _ _ (by omega) (by omega)] | rw [Go.IntWalk.wrap64_in _ (by omega)]); repeat (first | rw [pw_wdiv _ _ (by omega) (by omega)] | rw [pw_wdiv' _ _ (by omega) (by omega)] | rw [Go.IntWalk.wrap64_in _ (by omega)])); rfl), by repeat (first | (with_reducible first | exact HB.out | apply below_alloc | apply pw_below_drewN | apply below_drew1) | exact HB.out)⟩
      · rw [if_neg c7] at H
        exact absurd H (by simp)
    · rw [if_neg c5] at H
      exact absurd H (by simp)

end Go.Proofs.Ytldcgkkbmnahiaa.Px
