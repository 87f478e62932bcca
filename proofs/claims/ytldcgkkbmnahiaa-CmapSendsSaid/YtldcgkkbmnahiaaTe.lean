/- the groups' way that goes through the rows -/
import Derived.Test.YtldcgkkbmnahiaaTd
namespace Go.Proofs.Ytldcgkkbmnahiaa.Px
set_option linter.unusedSimpArgs false
set_option linter.unusedVariables false
open Go.RowKit Go.Proofs.YtldcgkkbmnahiaaW.PrintWords Go.Proofs.YtldcgkkbmnahiaaW.PrintLast Go.Proofs.YtldcgkkbmnahiaaW.PrintMore

theorem groupsL_bad {t : ByteArray} {n i last : Int} {r : Nat} {xs : List S47} (h : gB t i < gA t i ∨ gA t i ≤ last ∨ 1114111 < gB t i ∨ n ≤ gG t i + gB t i - gA t i) : groupsL t n (r + 1) i last xs = (false, xs) := by simp only [groupsL]; rw [if_pos h]
theorem groupsL_good {t : ByteArray} {n i last : Int} {r : Nat} {xs : List S47} (h : ¬ (gB t i < gA t i ∨ gA t i ≤ last ∨ 1114111 < gB t i ∨ n ≤ gG t i + gB t i - gA t i)) : groupsL t n (r + 1) i last xs = groupsL t n r (i + 1) (gB t i) (takeRun xs (gA t i) (gG t i) (gB t i - gA t i + 1).toNat) := by simp only [groupsL]; rw [if_neg h]
set_option maxHeartbeats 8000000 in
set_option maxRecDepth 100000 in
theorem groups_6 (w0 W : World) (g : Nat) (t : ByteArray) (n : Int) (xs : List S47) (hs : t.size ≤ 9223372036854775807) (hl : xs.length ≤ 4096) (hA : Acc w0 W g xs) (hB : Below w0.heap.size w0 W) (h : ¬ (t.size : Int) < 16) (h2 : fo t 0 = 786432) (h3 : ¬ 4096 < fo t 12) (h4 : fo t 4 = 16 + 12 * fo t 12) (h5 : ¬ (t.size : Int) < 16 + 12 * fo t 12) :
    Calls Try.prog 21 #[.string t, .int .i64 n, .func (.func 35) #[] #[.pointer (some ⟨g, 0, none⟩)]] W fun e W' => e = .returned (.bool (groupsL t n (fo t 12).toNat 0 (-1) xs).1) ∧ Acc w0 W' g (groupsL t n (fo t 12).toNat 0 (-1) xs).2 ∧ Below w0.heap.size w0 W' := by
  have HA := Aside0.mk hA
  have HB := Aside0.mk hB
  have F0 := Aside0.mk (four_f t 0 (by omega) (by omega) hs)
  have F12 := Aside0.mk (four_f t 12 (by omega) (by omega) hs)
  have F4 := Aside0.mk (four_f t 4 (by omega) (by omega) hs)
  have hb1 : decide ((t.size : Int) < 16) = false := decide_eq_false h
  have hb2 : (fo t 0 == 786432) = true := beq_iff_eq.2 h2
  have hb2' : (fo t 0 != 786432) = false := by simp only [bne, hb2, Bool.not_true]
  have hb3 : decide (4096 < fo t 12) = false := decide_eq_false h3
  have hm := fo_bd t 12
  have e1 : wrap64 (16 + wrap64 (12 * fo t 12)) = 16 + 12 * fo t 12 := by rw [wrap64_small (x := 12 * fo t 12) (by omega) (by omega), wrap64_small (by omega) (by omega)]
  have hb4 : (fo t 4 == wrap64 (16 + wrap64 (12 * fo t 12))) = true := by rw [e1]; exact beq_iff_eq.2 h4
  have hb4' : (fo t 4 != wrap64 (16 + wrap64 (12 * fo t 12))) = false := by simp only [bne, hb4, Bool.not_true]
  have hb5 : decide ((t.size : Int) < wrap64 (16 + wrap64 (12 * fo t 12))) = false := by rw [e1]; exact decide_eq_false h5
  have HS := Aside0.mk hs
  have HL0 := Aside0.mk hl
  have HM : Aside0 (0 ≤ fo t 12 ∧ fo t 12 ≤ 4096 ∧ 16 + 12 * fo t 12 ≤ (t.size : Int)) := ⟨⟨hm.1, by omega, by omega⟩⟩
  generalize fo t 0 = y0 at *
  generalize fo t 12 = m at *
  generalize fo t 4 = y4 at *
  clear h h2 hs h3 h4 hm e1 h5 hl hA hB
  generalize hR : groupsL t n m.toNat 0 (-1) xs = R
  obtain ⟨b, zs⟩ := R
  have HR := Aside0.mk hR
  clear hR
  go_enter Try.func21, Try.ntmps21
  go_wp2_with (first | (go_at_call 34; (with_reducible refine (cmap_four.calls t 0 _ _ F0.out).mono ?_); rintro e w' ⟨rfl, ⟨nd, rfl⟩⟩) | ((with_reducible refine gate_callee (f := 34) rfl ?_); refine goesL_ (some 24) rfl rfl Try.func34 (by kernel_rfl) rfl #[.string t, .int .i64 12] rfl (by (try simp only [List.map_toArray, List.map_cons, List.map_nil]); first | done | rfl) ?_; (with_reducible refine (cmap_four.calls t 12 _ _ F12.out).mono ?_); rintro e w' ⟨rfl, ⟨nd, rfl⟩⟩; refine ⟨_, rfl, ?_⟩) | (go_at_call 34; (with_reducible refine (cmap_four.calls t 4 _ _ F4.out).mono ?_); rintro e w' ⟨rfl, ⟨nd, rfl⟩⟩))
  go_loopg [8, 44] m.toNat (fun kq v8 v44 w' => ∃ (x8 x44 : Int) (ys : List S47), v8 = .int .i64 x8 ∧ v44 = .int .i64 x44 ∧ Aside0 (0 ≤ x44 ∧ x44 + kq = m ∧ ys.length + kq * 1114112 ≤ 4096 + 4096 * 1114112) ∧ Aside0 (groupsL t n kq x44 x8 ys = (b, zs)) ∧ Aside0 (Acc w0 w' g ys) ∧ Aside0 (Below w0.heap.size w0 w'))
  case atStart => exact ⟨-1, 0, xs, rfl, rfl, ⟨by have := HM.out; have := HL0.out; omega⟩, ⟨HR.out⟩, ⟨by first | exact HA.out | (repeat apply Acc.drewN); exact HA.out⟩, ⟨by repeat (first | (with_reducible first | exact HB.out | apply pw_below_drewN) | exact HB.out)⟩⟩
  case round =>
    clear hb1 hb2 hb2' hb3 hb4 hb4' hb5 F0 F12 F4 HA HB
    obtain ⟨x8, x44, ys, rfl, rfl, HI, HE, HA, HB⟩ := hrel
    cases gk with
    | zero =>
      have hc : decide (x44 < m) = false := decide_eq_false (by have := HI.out; omega)
      have hE := HE.out
      simp only [groupsL, Prod.mk.injEq] at hE
      obtain ⟨rfl, rfl⟩ := hE
      go_wp2
      go_ret
      exact ⟨rfl, by first | exact HA.out | (repeat apply Acc.drewN); exact HA.out, by repeat (first | (with_reducible first | exact HB.out | apply pw_below_drewN) | exact HB.out)⟩
    | succ k =>
      have hc : decide (x44 < m) = true := decide_eq_true (by have := HI.out; omega)
      have hI := HI.out
      have hM := HM.out
      have er : wrap64 (16 + wrap64 (12 * x44)) = 16 + 12 * x44 := by rw [wrap64_small (x := 12 * x44) (by omega) (by omega), wrap64_small (by omega) (by omega)]
      have FA : Aside0 (cmap_four.f t (wrap64 (16 + (wrap64 (12 * x44)))) = some (gA t x44)) := ⟨by rw [er]; exact four_f t _ (by omega) (by omega) HS.out⟩
      have FB : Aside0 (cmap_four.f t (wrap64 ((wrap64 (16 + (wrap64 (12 * x44)))) + 4)) = some (gB t x44)) := ⟨by rw [er, wrap64_small (x := 16 + 12 * x44 + 4) (by omega) (by omega)]; exact four_f t _ (by omega) (by omega) HS.out⟩
      have FG : Aside0 (cmap_four.f t (wrap64 ((wrap64 (16 + (wrap64 (12 * x44)))) + 8)) = some (gG t x44)) := ⟨by rw [er, wrap64_small (x := 16 + 12 * x44 + 8) (by omega) (by omega)]; exact four_f t _ (by omega) (by omega) HS.out⟩
      have hbA : 0 ≤ gA t x44 ∧ gA t x44 ≤ 4294967295 := fo_bd t _
      have hbB : 0 ≤ gB t x44 ∧ gB t x44 ≤ 4294967295 := fo_bd t _
      have hbG : 0 ≤ gG t x44 ∧ gG t x44 ≤ 4294967295 := fo_bd t _
      have HBAD := Aside0.mk (fun h => (Prod.mk.injEq _ _ _ _ ▸ ((groupsL_bad (t := t) (n := n) (i := x44) (last := x8) (r := k) (xs := ys) h).symm.trans HE.out) : false = b ∧ ys = zs))
      have HGOOD := Aside0.mk (fun h => ((groupsL_good (t := t) (n := n) (i := x44) (last := x8) (r := k) (xs := ys) h).symm.trans HE.out))
      have e2 : wrap64 (wrap64 (gG t x44 + gB t x44) - gA t x44) = gG t x44 + gB t x44 - gA t x44 := by rw [wrap64_small (x := gG t x44 + gB t x44) (by omega) (by omega), wrap64_small (by omega) (by omega)]
      have hd4 : decide (n ≤ wrap64 (wrap64 (gG t x44 + gB t x44) - gA t x44)) = decide (n ≤ gG t x44 + gB t x44 - gA t x44) := by rw [e2]
      generalize hfr : gA t x44 = fr at *
      generalize hto : gB t x44 = tt at *
      generalize hgl : gG t x44 = gl at *
      clear e2 er hI hM
      by_cases c1 : tt < fr
      · have d1 : decide (tt < fr) = true := decide_eq_true c1
        obtain ⟨rfl, rfl⟩ := HBAD.out (.inl c1)
        clear hbA hbB hbG c1 HE hfr hto hgl hd4
        go_wp2_with (first | ((with_reducible refine gate_callee (f := 34) rfl ?_); refine goesL_ (some 52) rfl rfl Try.func34 (by kernel_rfl) rfl #[.string t, .int .i64 (wrap64 (16 + (wrap64 (12 * x44))))] rfl (by (try simp only [List.map_toArray, List.map_cons, List.map_nil]); first | done | rfl) ?_; (with_reducible refine (cmap_four.calls t (wrap64 (16 + (wrap64 (12 * x44)))) _ _ FA.out).mono ?_); rintro e w' ⟨rfl, ⟨nd, rfl⟩⟩; refine ⟨_, rfl, ?_⟩) | ((with_reducible refine gate_callee (f := 34) rfl ?_); refine goesL_ (some 56) rfl rfl Try.func34 (by kernel_rfl) rfl #[.string t, .int .i64 (wrap64 ((wrap64 (16 + (wrap64 (12 * x44)))) + 4))] rfl (by (try simp only [List.map_toArray, List.map_cons, List.map_nil]); first | done | rfl) ?_; (with_reducible refine (cmap_four.calls t (wrap64 ((wrap64 (16 + (wrap64 (12 * x44)))) + 4)) _ _ FB.out).mono ?_); rintro e w' ⟨rfl, ⟨nd, rfl⟩⟩; refine ⟨_, rfl, ?_⟩) | ((with_reducible refine gate_callee (f := 34) rfl ?_); refine goesL_ (some 60) rfl rfl Try.func34 (by kernel_rfl) rfl #[.string t, .int .i64 (wrap64 ((wrap64 (16 + (wrap64 (12 * x44)))) + 8))] rfl (by (try simp only [List.map_toArray, List.map_cons, List.map_nil]); first | done | rfl) ?_; (with_reducible refine (cmap_four.calls t (wrap64 ((wrap64 (16 + (wrap64 (12 * x44)))) + 8)) _ _ FG.out).mono ?_); rintro e w' ⟨rfl, ⟨nd, rfl⟩⟩; refine ⟨_, rfl, ?_⟩))
        go_ret
        exact ⟨rfl, by first | exact HA.out | (repeat apply Acc.drewN); exact HA.out, by repeat (first | (with_reducible first | exact HB.out | apply pw_below_drewN) | exact HB.out)⟩
      · have d1 : decide (tt < fr) = false := decide_eq_false c1
        by_cases c2 : fr ≤ x8
        · have d2 : decide (fr ≤ x8) = true := decide_eq_true c2
          obtain ⟨rfl, rfl⟩ := HBAD.out (.inr (.inl c2))
          clear hbA hbB hbG c1 c2 HE hfr hto hgl hd4
          go_wp2_with (first | ((with_reducible refine gate_callee (f := 34) rfl ?_); refine goesL_ (some 52) rfl rfl Try.func34 (by kernel_rfl) rfl #[.string t, .int .i64 (wrap64 (16 + (wrap64 (12 * x44))))] rfl (by (try simp only [List.map_toArray, List.map_cons, List.map_nil]); first | done | rfl) ?_; (with_reducible refine (cmap_four.calls t (wrap64 (16 + (wrap64 (12 * x44)))) _ _ FA.out).mono ?_); rintro e w' ⟨rfl, ⟨nd, rfl⟩⟩; refine ⟨_, rfl, ?_⟩) | ((with_reducible refine gate_callee (f := 34) rfl ?_); refine goesL_ (some 56) rfl rfl Try.func34 (by kernel_rfl) rfl #[.string t, .int .i64 (wrap64 ((wrap64 (16 + (wrap64 (12 * x44)))) + 4))] rfl (by (try simp only [List.map_toArray, List.map_cons, List.map_nil]); first | done | rfl) ?_; (with_reducible refine (cmap_four.calls t (wrap64 ((wrap64 (16 + (wrap64 (12 * x44)))) + 4)) _ _ FB.out).mono ?_); rintro e w' ⟨rfl, ⟨nd, rfl⟩⟩; refine ⟨_, rfl, ?_⟩) | ((with_reducible refine gate_callee (f := 34) rfl ?_); refine goesL_ (some 60) rfl rfl Try.func34 (by kernel_rfl) rfl #[.string t, .int .i64 (wrap64 ((wrap64 (16 + (wrap64 (12 * x44)))) + 8))] rfl (by (try simp only [List.map_toArray, List.map_cons, List.map_nil]); first | done | rfl) ?_; (with_reducible refine (cmap_four.calls t (wrap64 ((wrap64 (16 + (wrap64 (12 * x44)))) + 8)) _ _ FG.out).mono ?_); rintro e w' ⟨rfl, ⟨nd, rfl⟩⟩; refine ⟨_, rfl, ?_⟩))
          go_ret
          exact ⟨rfl, by first | exact HA.out | (repeat apply Acc.drewN); exact HA.out, by repeat (first | (with_reducible first | exact HB.out | apply pw_below_drewN) | exact HB.out)⟩
        · have d2 : decide (fr ≤ x8) = false := decide_eq_false c2
          by_cases c3 : 1114111 < tt
          · have d3 : decide (1114111 < tt) = true := decide_eq_true c3
            obtain ⟨rfl, rfl⟩ := HBAD.out (.inr (.inr (.inl c3)))
            clear hbA hbB hbG c1 c2 c3 HE hfr hto hgl hd4
            go_wp2_with (first | ((with_reducible refine gate_callee (f := 34) rfl ?_); refine goesL_ (some 52) rfl rfl Try.func34 (by kernel_rfl) rfl #[.string t, .int .i64 (wrap64 (16 + (wrap64 (12 * x44))))] rfl (by (try simp only [List.map_toArray, List.map_cons, List.map_nil]); first | done | rfl) ?_; (with_reducible refine (cmap_four.calls t (wrap64 (16 + (wrap64 (12 * x44)))) _ _ FA.out).mono ?_); rintro e w' ⟨rfl, ⟨nd, rfl⟩⟩; refine ⟨_, rfl, ?_⟩) | ((with_reducible refine gate_callee (f := 34) rfl ?_); refine goesL_ (some 56) rfl rfl Try.func34 (by kernel_rfl) rfl #[.string t, .int .i64 (wrap64 ((wrap64 (16 + (wrap64 (12 * x44)))) + 4))] rfl (by (try simp only [List.map_toArray, List.map_cons, List.map_nil]); first | done | rfl) ?_; (with_reducible refine (cmap_four.calls t (wrap64 ((wrap64 (16 + (wrap64 (12 * x44)))) + 4)) _ _ FB.out).mono ?_); rintro e w' ⟨rfl, ⟨nd, rfl⟩⟩; refine ⟨_, rfl, ?_⟩) | ((with_reducible refine gate_callee (f := 34) rfl ?_); refine goesL_ (some 60) rfl rfl Try.func34 (by kernel_rfl) rfl #[.string t, .int .i64 (wrap64 ((wrap64 (16 + (wrap64 (12 * x44)))) + 8))] rfl (by (try simp only [List.map_toArray, List.map_cons, List.map_nil]); first | done | rfl) ?_; (with_reducible refine (cmap_four.calls t (wrap64 ((wrap64 (16 + (wrap64 (12 * x44)))) + 8)) _ _ FG.out).mono ?_); rintro e w' ⟨rfl, ⟨nd, rfl⟩⟩; refine ⟨_, rfl, ?_⟩))
            go_ret
            exact ⟨rfl, by first | exact HA.out | (repeat apply Acc.drewN); exact HA.out, by repeat (first | (with_reducible first | exact HB.out | apply pw_below_drewN) | exact HB.out)⟩
          · have d3 : decide (1114111 < tt) = false := decide_eq_false c3
            by_cases c4 : n ≤ gl + tt - fr
            · have d4 : decide (n ≤ wrap64 (wrap64 (gl + tt) - fr)) = true := by rw [hd4]; exact decide_eq_true c4
              obtain ⟨rfl, rfl⟩ := HBAD.out (.inr (.inr (.inr c4)))
              clear hbA hbB hbG c1 c2 c3 c4 HE hfr hto hgl hd4
              go_wp2_with (first | ((with_reducible refine gate_callee (f := 34) rfl ?_); refine goesL_ (some 52) rfl rfl Try.func34 (by kernel_rfl) rfl #[.string t, .int .i64 (wrap64 (16 + (wrap64 (12 * x44))))] rfl (by (try simp only [List.map_toArray, List.map_cons, List.map_nil]); first | done | rfl) ?_; (with_reducible refine (cmap_four.calls t (wrap64 (16 + (wrap64 (12 * x44)))) _ _ FA.out).mono ?_); rintro e w' ⟨rfl, ⟨nd, rfl⟩⟩; refine ⟨_, rfl, ?_⟩) | ((with_reducible refine gate_callee (f := 34) rfl ?_); refine goesL_ (some 56) rfl rfl Try.func34 (by kernel_rfl) rfl #[.string t, .int .i64 (wrap64 ((wrap64 (16 + (wrap64 (12 * x44)))) + 4))] rfl (by (try simp only [List.map_toArray, List.map_cons, List.map_nil]); first | done | rfl) ?_; (with_reducible refine (cmap_four.calls t (wrap64 ((wrap64 (16 + (wrap64 (12 * x44)))) + 4)) _ _ FB.out).mono ?_); rintro e w' ⟨rfl, ⟨nd, rfl⟩⟩; refine ⟨_, rfl, ?_⟩) | ((with_reducible refine gate_callee (f := 34) rfl ?_); refine goesL_ (some 60) rfl rfl Try.func34 (by kernel_rfl) rfl #[.string t, .int .i64 (wrap64 ((wrap64 (16 + (wrap64 (12 * x44)))) + 8))] rfl (by (try simp only [List.map_toArray, List.map_cons, List.map_nil]); first | done | rfl) ?_; (with_reducible refine (cmap_four.calls t (wrap64 ((wrap64 (16 + (wrap64 (12 * x44)))) + 8)) _ _ FG.out).mono ?_); rintro e w' ⟨rfl, ⟨nd, rfl⟩⟩; refine ⟨_, rfl, ?_⟩))
              go_ret
              exact ⟨rfl, by first | exact HA.out | (repeat apply Acc.drewN); exact HA.out, by repeat (first | (with_reducible first | exact HB.out | apply pw_below_drewN) | exact HB.out)⟩
            · have d4 : decide (n ≤ wrap64 (wrap64 (gl + tt) - fr)) = false := by rw [hd4]; exact decide_eq_false c4
              have HG := Aside0.mk (HGOOD.out (fun hh => by rcases hh with h | h | h | h <;> contradiction))
              have eN : wrap64 (wrap64 (tt - fr) + 1) = tt - fr + 1 := by rw [wrap64_small (x := tt - fr) (by omega) (by omega), wrap64_small (by omega) (by omega)]
              have HN := Aside0.mk eN
              have HC : Aside0 (0 ≤ fr ∧ fr ≤ tt ∧ tt ≤ 1114111 ∧ 0 ≤ gl ∧ gl ≤ 4294967295) := ⟨by omega⟩
              clear hbA hbB hbG c1 c2 c3 c4 HE hfr hto hgl hd4 HBAD HGOOD eN
              go_wp2_with (first | ((with_reducible refine gate_callee (f := 34) rfl ?_); refine goesL_ (some 52) rfl rfl Try.func34 (by kernel_rfl) rfl #[.string t, .int .i64 (wrap64 (16 + (wrap64 (12 * x44))))] rfl (by (try simp only [List.map_toArray, List.map_cons, List.map_nil]); first | done | rfl) ?_; (with_reducible refine (cmap_four.calls t (wrap64 (16 + (wrap64 (12 * x44)))) _ _ FA.out).mono ?_); rintro e w' ⟨rfl, ⟨nd, rfl⟩⟩; refine ⟨_, rfl, ?_⟩) | ((with_reducible refine gate_callee (f := 34) rfl ?_); refine goesL_ (some 56) rfl rfl Try.func34 (by kernel_rfl) rfl #[.string t, .int .i64 (wrap64 ((wrap64 (16 + (wrap64 (12 * x44)))) + 4))] rfl (by (try simp only [List.map_toArray, List.map_cons, List.map_nil]); first | done | rfl) ?_; (with_reducible refine (cmap_four.calls t (wrap64 ((wrap64 (16 + (wrap64 (12 * x44)))) + 4)) _ _ FB.out).mono ?_); rintro e w' ⟨rfl, ⟨nd, rfl⟩⟩; refine ⟨_, rfl, ?_⟩) | ((with_reducible refine gate_callee (f := 34) rfl ?_); refine goesL_ (some 60) rfl rfl Try.func34 (by kernel_rfl) rfl #[.string t, .int .i64 (wrap64 ((wrap64 (16 + (wrap64 (12 * x44)))) + 8))] rfl (by (try simp only [List.map_toArray, List.map_cons, List.map_nil]); first | done | rfl) ?_; (with_reducible refine (cmap_four.calls t (wrap64 ((wrap64 (16 + (wrap64 (12 * x44)))) + 8)) _ _ FG.out).mono ?_); rintro e w' ⟨rfl, ⟨nd, rfl⟩⟩; refine ⟨_, rfl, ?_⟩))
              go_loopg [86] (tt - fr + 1).toNat (fun kq v86 w' => ∃ (x86 : Int), v86 = .int .i64 x86 ∧ Aside0 (0 ≤ x86 ∧ x86 + kq = tt - fr + 1) ∧ Aside0 (Acc w0 w' g (takeRun ys fr gl x86.toNat)) ∧ Aside0 (Below w0.heap.size w0 w'))
              case atStart => exact ⟨0, rfl, ⟨by have := HC.out; omega⟩, ⟨by first | exact HA.out | (repeat apply Acc.drewN); exact HA.out⟩, ⟨by repeat (first | (with_reducible first | exact HB.out | apply pw_below_drewN) | exact HB.out)⟩⟩
              case round =>
                clear d1 d2 d3 d4 FA FB FG HA HB
                obtain ⟨x86, rfl, HJ, HA, HB⟩ := hrel
                cases gk with
                | zero =>
                  have hc2 : decide (x86 < wrap64 (wrap64 (tt - fr) + 1)) = false := by rw [HN.out]; exact decide_eq_false (by have := HJ.out; omega)
                  go_wp2
                  go_roundg k
                  case measure => omega
                  case rel =>
                    refine ⟨tt, wrap64 (x44 + 1), takeRun ys fr gl (tt - fr + 1).toNat, rfl, rfl, ⟨?_⟩, ⟨?_⟩, ⟨?_⟩, ⟨by repeat (first | (with_reducible first | exact HB.out | apply pw_below_drewN) | exact HB.out)⟩⟩
                    · have := takeRun_len ys fr gl (tt - fr + 1).toNat
                      have := HI.out; have := HC.out; have := HM.out
                      rw [wrap64_small (by omega) (by omega)]
                      omega
                    · rw [wrap64_small (x := x44 + 1) (by have := HI.out; have := HM.out; omega) (by have := HI.out; have := HM.out; omega)]; exact HG.out
                    · have e3 : x86 = tt - fr + 1 := by have := HJ.out; omega
                      rw [← e3]
                      first | exact HA.out | (repeat apply Acc.drewN); exact HA.out
                | succ k2 =>
                  have hc2 : decide (x86 < wrap64 (wrap64 (tt - fr) + 1)) = true := by rw [HN.out]; exact decide_eq_true (by have := HJ.out; omega)
                  have HL : Aside0 ((takeRun ys fr gl x86.toNat).length < 5864062014805) := ⟨by have := takeRun_len ys fr gl x86.toNat; have := HI.out; have := HJ.out; have := HC.out; omega⟩
                  go_wp2_with (first | (go_at_call 35; refine (take_calls w0 _ g _ HL.out (wrap64 (fr + x86)) (wrap64 (gl + x86)) (by first | exact HA.out | (repeat apply Acc.drewN); exact HA.out) (by repeat (first | (with_reducible first | exact HB.out | apply pw_below_drewN) | exact HB.out))).mono ?_; rintro e w1 ⟨rfl, ha1, hb1⟩; have HA1 := Aside0.mk ha1; have HB1 := Aside0.mk hb1; clear ha1 hb1))
                  go_roundg k2
                  case measure => omega
                  case rel =>
                    have hJ := HJ.out
                    have hC := HC.out
                    refine ⟨wrap64 (x86 + 1), rfl, ⟨?_⟩, ⟨?_⟩, ⟨?_⟩⟩
                    · rw [wrap64_small (by omega) (by omega)]; omega
                    · rw [wrap64_small (x := x86 + 1) (by omega) (by omega), show (x86 + 1).toNat = x86.toNat + 1 from by omega]
                      have h_ := HA1.out
                      rw [wrap64_small (x := fr + x86) (by omega) (by omega), wrap64_small (x := gl + x86) (by omega) (by omega)] at h_
                      simp only [takeRun]
                      rw [show ((x86.toNat : Nat) : Int) = x86 from by omega]
                      first | exact h_ | (repeat apply Acc.drewN); exact h_
                    · first | exact HB1.out | (repeat apply pw_below_drewN); exact HB1.out

/-- the table of groups, walked: whether it is good, and what is taken -/
theorem groups_calls (w0 W : World) (g : Nat) (t : ByteArray) (n : Int) (xs : List S47) (hs : t.size ≤ 9223372036854775807) (hl : xs.length ≤ 4096) (hA : Acc w0 W g xs) (hB : Below w0.heap.size w0 W) :
    Calls Try.prog 21 #[.string t, .int .i64 n, .func (.func 35) #[] #[.pointer (some ⟨g, 0, none⟩)]] W fun e W' => e = .returned (.bool (groupsS t n xs).1) ∧ Acc w0 W' g (groupsS t n xs).2 ∧ Below w0.heap.size w0 W' := by
  unfold groupsS
  by_cases h : (t.size : Int) < 16
  · rw [if_pos h]; exact groups_1 w0 W g t n xs _ hs hA hB h
  · rw [if_neg h]
    by_cases h2 : fo t 0 = 786432
    · rw [if_neg (fun hh => hh h2)]
      by_cases h3 : 4096 < fo t 12
      · rw [if_pos h3]; exact groups_3 w0 W g t n xs _ hs hA hB h h2 h3
      · rw [if_neg h3]
        by_cases h4 : fo t 4 = 16 + 12 * fo t 12
        · rw [if_neg (fun hh => hh h4)]
          by_cases h5 : (t.size : Int) < 16 + 12 * fo t 12
          · rw [if_pos h5]; exact groups_5 w0 W g t n xs _ hs hA hB h h2 h3 h4 h5
          · rw [if_neg h5]; exact groups_6 w0 W g t n xs hs hl hA hB h h2 h3 h4 h5
        · rw [if_pos h4]; exact groups_4 w0 W g t n xs _ hs hA hB h h2 h3 h4
    · rw [if_pos h2]; exact groups_2 w0 W g t n xs _ hs hA hB h h2

end Go.Proofs.Ytldcgkkbmnahiaa.Px
