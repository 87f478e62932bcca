/- the segments' way that goes through -/
import Derived.Test.YtldcgkkbmnahiaaTf
namespace Go.Proofs.Ytldcgkkbmnahiaa.Px
set_option linter.unusedSimpArgs false
set_option linter.unusedVariables false
open Go.RowKit Go.Proofs.YtldcgkkbmnahiaaW.PrintWords Go.Proofs.YtldcgkkbmnahiaaW.PrintLast Go.Proofs.YtldcgkkbmnahiaaW.PrintMore

set_option maxHeartbeats 16000000 in
set_option maxRecDepth 100000 in
theorem segs_7 (w0 W : World) (g : Nat) (t : ByteArray) (n : Int) (xs : List S47) (hs : t.size ≤ 9223372036854775807) (hl : xs.length ≤ 4096) (hA : Acc w0 W g xs) (hB : Below w0.heap.size w0 W) (h : ¬ (t.size : Int) < 8) (h2 : tw t 0 = 4) (h3 : ¬ tw t 6 < 2) (h4 : tw t 6 % 2 = 0) (h5 : ¬ tw t 2 < 16 + 4 * tw t 6) (h6 : ¬ (t.size : Int) < tw t 2) :
    Calls Try.prog 22 #[.string t, .int .i64 n, .func (.func 35) #[] #[.pointer (some ⟨g, 0, none⟩)]] W fun e W' => e = .returned (.bool (segsL t n (tw t 2) (tw t 6) (tw t 6 / 2).toNat 0 (-1) xs).1) ∧ Acc w0 W' g (segsL t n (tw t 2) (tw t 6) (tw t 6 / 2).toNat 0 (-1) xs).2 ∧ Below w0.heap.size w0 W' := by
  have HA := Aside0.mk hA
  have HB := Aside0.mk hB
  have F0 := Aside0.mk (two_f t 0 (by omega) (by omega) hs)
  have F2 := Aside0.mk (two_f t 2 (by omega) (by omega) hs)
  have F6 := Aside0.mk (two_f t 6 (by omega) (by omega) hs)
  have hbd0 := tw_bd t 0
  have hbd2 := tw_bd t 2
  have hbd6 := tw_bd t 6
  have hd1 : decide ((t.size : Int) < 8) = false := decide_eq_false h
  have hd2 : (tw t 0 == 4) = true := beq_iff_eq.2 h2
  have hd2' : (tw t 0 != 4) = false := by simp only [bne, hd2, Bool.not_true]
  have hd3 : decide (tw t 6 < 2) = false := decide_eq_false h3
  have em : Int.tmod (tw t 6) 2 = tw t 6 % 2 := Int.tmod_eq_emod_of_nonneg (by omega)
  have hd4 : (Int.tmod (tw t 6) 2 == 0) = true := by rw [em]; exact beq_iff_eq.2 h4
  have hd4' : (Int.tmod (tw t 6) 2 != 0) = false := by simp only [bne, hd4, Bool.not_true]
  have e1 : wrap64 (16 + wrap64 (4 * tw t 6)) = 16 + 4 * tw t 6 := by rw [wrap64_small (x := 4 * tw t 6) (by omega) (by omega), wrap64_small (by omega) (by omega)]
  have hd5 : decide (tw t 2 < wrap64 (16 + wrap64 (4 * tw t 6))) = false := by rw [e1]; exact decide_eq_false h5
  have hd6 : decide ((t.size : Int) < tw t 2) = false := decide_eq_false h6
  have HS := Aside0.mk hs
  have HL0 := Aside0.mk hl
  have HM : Aside0 (2 ≤ tw t 6 ∧ tw t 6 ≤ 65535 ∧ tw t 6 % 2 = 0 ∧ 16 + 4 * tw t 6 ≤ tw t 2 ∧ tw t 2 ≤ (t.size : Int) ∧ tw t 2 ≤ 65535) := ⟨by omega⟩
  generalize tw t 0 = y0 at *
  generalize tw t 2 = d at *
  generalize tw t 6 = m at *
  clear hbd0 hbd2 hbd6
  generalize hR : segsL t n d m (m / 2).toNat 0 (-1) xs = R
  obtain ⟨b, zs⟩ := R
  have HR := Aside0.mk hR
  clear hR h h2 h3 h4 h5 h6 hs em e1 hA hB hl
  go_enter Try.func22, Try.ntmps22
  go_wp2_with (first | (go_at_call 33; (with_reducible refine (cmap_two.calls t 0 _ _ F0.out).mono ?_); rintro e w' ⟨rfl, ⟨nd, rfl⟩⟩) | ((with_reducible refine gate_callee (f := 33) rfl ?_); refine goesL_ (some 28) rfl rfl Try.func33 (by kernel_rfl) rfl #[.string t, .int .i64 2] rfl (by (try simp only [List.map_toArray, List.map_cons, List.map_nil]); first | done | rfl) ?_; (with_reducible refine (cmap_two.calls t 2 _ _ F2.out).mono ?_); rintro e w' ⟨rfl, ⟨nd, rfl⟩⟩; refine ⟨_, rfl, ?_⟩) | ((with_reducible refine gate_callee (f := 33) rfl ?_); refine goesL_ (some 30) rfl rfl Try.func33 (by kernel_rfl) rfl #[.string t, .int .i64 6] rfl (by (try simp only [List.map_toArray, List.map_cons, List.map_nil]); first | done | rfl) ?_; (with_reducible refine (cmap_two.calls t 6 _ _ F6.out).mono ?_); rintro e w' ⟨rfl, ⟨nd, rfl⟩⟩; refine ⟨_, rfl, ?_⟩))
  go_loopg [9, 10] (m / 2).toNat (fun kq v9 v10 w' => ∃ (x9 x10 : Int) (ys : List S47), v9 = .int .i64 x9 ∧ v10 = .int .i64 x10 ∧ Aside0 (0 ≤ x10 ∧ x10 + 2 * kq = m ∧ ys.length + kq * 65536 ≤ 4096 + 65536 * 65536) ∧ Aside0 (segsL t n d m kq x10 x9 ys = (b, zs)) ∧ Aside0 (Acc w0 w' g ys) ∧ Aside0 (Below w0.heap.size w0 w'))
  case atStart => exact ⟨-1, 0, xs, rfl, rfl, ⟨by have := HM.out; have := HL0.out; omega⟩, ⟨HR.out⟩, ⟨by first | exact HA.out | (repeat apply Acc.drewN); exact HA.out⟩, ⟨by repeat (first | (with_reducible first | exact HB.out | apply pw_below_drewN) | exact HB.out)⟩⟩
  case round =>
    clear hd1 hd2 hd2' hd3 hd4 hd4' hd5 hd6 F0 F2 F6 HA HB
    obtain ⟨x9, x10, ys, rfl, rfl, HI, HE, HA, HB⟩ := hrel
    cases gk with
    | zero =>
      have hc : decide (x10 < m) = false := decide_eq_false (by have := HI.out; omega)
      have hE := HE.out
      simp only [segsL, Prod.mk.injEq] at hE
      obtain ⟨rfl, rfl⟩ := hE
      go_wp2
      go_ret
      exact ⟨rfl, by first | exact HA.out | (repeat apply Acc.drewN); exact HA.out, by repeat (first | (with_reducible first | exact HB.out | apply pw_below_drewN) | exact HB.out)⟩
    | succ k =>
      have hc : decide (x10 < m) = true := decide_eq_true (by have := HI.out; omega)
      have hI := HI.out
      have hM := HM.out
      have e14 : (wrap64 (14 + x10)) = 14 + x10 := wrap64_small (by omega) (by omega)
      have e16 : (wrap64 ((wrap64 (16 + m)) + x10)) = 16 + m + x10 := by rw [wrap64_small (x := 16 + m) (by omega) (by omega), wrap64_small (by omega) (by omega)]
      have e2 : (wrap64 ((wrap64 (16 + (wrap64 (2 * m)))) + x10)) = 16 + 2 * m + x10 := by rw [wrap64_small (x := 2 * m) (by omega) (by omega), wrap64_small (x := 16 + 2 * m) (by omega) (by omega), wrap64_small (by omega) (by omega)]
      have e3 : (wrap64 ((wrap64 (16 + (wrap64 (3 * m)))) + x10)) = sP m x10 := by unfold sP; rw [wrap64_small (x := 3 * m) (by omega) (by omega), wrap64_small (x := 16 + 3 * m) (by omega) (by omega), wrap64_small (by omega) (by omega)]
      have hsp : sP m x10 = 16 + 3 * m + x10 := rfl
      have FL : Aside0 (cmap_two.f t (wrap64 (14 + x10)) = some (sL t x10)) := ⟨by rw [e14]; exact two_f t _ (by omega) (by omega) HS.out⟩
      have FF : Aside0 (cmap_two.f t (wrap64 ((wrap64 (16 + m)) + x10)) = some (sF t m x10)) := ⟨by rw [e16]; exact two_f t _ (by omega) (by omega) HS.out⟩
      have FD : Aside0 (cmap_two.f t (wrap64 ((wrap64 (16 + (wrap64 (2 * m)))) + x10)) = some (sD t m x10)) := ⟨by rw [e2]; exact two_f t _ (by omega) (by omega) HS.out⟩
      have FO : Aside0 (cmap_two.f t (wrap64 ((wrap64 (16 + (wrap64 (3 * m)))) + x10)) = some (sO t m x10)) := ⟨by rw [e3]; exact two_f t _ (by omega) (by omega) HS.out⟩
      have hE := HE.out
      simp only [segsL] at hE
      have HBL : Aside0 (0 ≤ sL t x10 ∧ sL t x10 ≤ 65535) := ⟨tw_bd t _⟩
      have HBF : Aside0 (0 ≤ sF t m x10 ∧ sF t m x10 ≤ 65535) := ⟨tw_bd t _⟩
      have HBD : Aside0 (0 ≤ sD t m x10 ∧ sD t m x10 ≤ 65535) := ⟨tw_bd t _⟩
      have HBO : Aside0 (0 ≤ sO t m x10 ∧ sO t m x10 ≤ 65535) := ⟨tw_bd t _⟩
      have HP := Aside0.mk e3
      generalize sL t x10 = l at *
      generalize sF t m x10 = fr at *
      generalize sD t m x10 = dl at *
      generalize sO t m x10 = off at *
      clear e14 e16 e2 e3 hI hM hsp HE
      by_cases c1 : fr ≤ x9
      · have d1 : decide (fr ≤ x9) = true := decide_eq_true c1
        rw [if_pos (.inl c1)] at hE
        obtain ⟨rfl, rfl⟩ := (Prod.mk.injEq _ _ _ _ ▸ hE : false = b ∧ ys = zs)
        clear c1
        go_wp2_with (first | ((with_reducible refine gate_callee (f := 33) rfl ?_); refine goesL_ (some 59) rfl rfl Try.func33 (by kernel_rfl) rfl #[.string t, .int .i64 (wrap64 (14 + x10))] rfl (by (try simp only [List.map_toArray, List.map_cons, List.map_nil]); first | done | rfl) ?_; (with_reducible refine (cmap_two.calls t (wrap64 (14 + x10)) _ _ FL.out).mono ?_); rintro e w' ⟨rfl, ⟨nd, rfl⟩⟩; refine ⟨_, rfl, ?_⟩) | ((with_reducible refine gate_callee (f := 33) rfl ?_); refine goesL_ (some 65) rfl rfl Try.func33 (by kernel_rfl) rfl #[.string t, .int .i64 (wrap64 ((wrap64 (16 + m)) + x10))] rfl (by (try simp only [List.map_toArray, List.map_cons, List.map_nil]); first | done | rfl) ?_; (with_reducible refine (cmap_two.calls t (wrap64 ((wrap64 (16 + m)) + x10)) _ _ FF.out).mono ?_); rintro e w' ⟨rfl, ⟨nd, rfl⟩⟩; refine ⟨_, rfl, ?_⟩) | ((with_reducible refine gate_callee (f := 33) rfl ?_); refine goesL_ (some 72) rfl rfl Try.func33 (by kernel_rfl) rfl #[.string t, .int .i64 (wrap64 ((wrap64 (16 + (wrap64 (2 * m)))) + x10))] rfl (by (try simp only [List.map_toArray, List.map_cons, List.map_nil]); first | done | rfl) ?_; (with_reducible refine (cmap_two.calls t (wrap64 ((wrap64 (16 + (wrap64 (2 * m)))) + x10)) _ _ FD.out).mono ?_); rintro e w' ⟨rfl, ⟨nd, rfl⟩⟩; refine ⟨_, rfl, ?_⟩) | ((with_reducible refine gate_callee (f := 33) rfl ?_); refine goesL_ (some 88) rfl rfl Try.func33 (by kernel_rfl) rfl #[.string t, .int .i64 (wrap64 ((wrap64 (16 + (wrap64 (3 * m)))) + x10))] rfl (by (try simp only [List.map_toArray, List.map_cons, List.map_nil]); first | done | rfl) ?_; (with_reducible refine (cmap_two.calls t (wrap64 ((wrap64 (16 + (wrap64 (3 * m)))) + x10)) _ _ FO.out).mono ?_); rintro e w' ⟨rfl, ⟨nd, rfl⟩⟩; refine ⟨_, rfl, ?_⟩))
        go_ret
        exact ⟨rfl, by first | exact HA.out | (repeat apply Acc.drewN); exact HA.out, by repeat (first | (with_reducible first | exact HB.out | apply pw_below_drewN) | exact HB.out)⟩
      · have d1 : decide (fr ≤ x9) = false := decide_eq_false c1
        by_cases c2 : l < fr
        · have d2 : decide (l < fr) = true := decide_eq_true c2
          rw [if_pos (.inr c2)] at hE
          obtain ⟨rfl, rfl⟩ := (Prod.mk.injEq _ _ _ _ ▸ hE : false = b ∧ ys = zs)
          clear c1 c2
          go_wp2_with (first | ((with_reducible refine gate_callee (f := 33) rfl ?_); refine goesL_ (some 59) rfl rfl Try.func33 (by kernel_rfl) rfl #[.string t, .int .i64 (wrap64 (14 + x10))] rfl (by (try simp only [List.map_toArray, List.map_cons, List.map_nil]); first | done | rfl) ?_; (with_reducible refine (cmap_two.calls t (wrap64 (14 + x10)) _ _ FL.out).mono ?_); rintro e w' ⟨rfl, ⟨nd, rfl⟩⟩; refine ⟨_, rfl, ?_⟩) | ((with_reducible refine gate_callee (f := 33) rfl ?_); refine goesL_ (some 65) rfl rfl Try.func33 (by kernel_rfl) rfl #[.string t, .int .i64 (wrap64 ((wrap64 (16 + m)) + x10))] rfl (by (try simp only [List.map_toArray, List.map_cons, List.map_nil]); first | done | rfl) ?_; (with_reducible refine (cmap_two.calls t (wrap64 ((wrap64 (16 + m)) + x10)) _ _ FF.out).mono ?_); rintro e w' ⟨rfl, ⟨nd, rfl⟩⟩; refine ⟨_, rfl, ?_⟩) | ((with_reducible refine gate_callee (f := 33) rfl ?_); refine goesL_ (some 72) rfl rfl Try.func33 (by kernel_rfl) rfl #[.string t, .int .i64 (wrap64 ((wrap64 (16 + (wrap64 (2 * m)))) + x10))] rfl (by (try simp only [List.map_toArray, List.map_cons, List.map_nil]); first | done | rfl) ?_; (with_reducible refine (cmap_two.calls t (wrap64 ((wrap64 (16 + (wrap64 (2 * m)))) + x10)) _ _ FD.out).mono ?_); rintro e w' ⟨rfl, ⟨nd, rfl⟩⟩; refine ⟨_, rfl, ?_⟩) | ((with_reducible refine gate_callee (f := 33) rfl ?_); refine goesL_ (some 88) rfl rfl Try.func33 (by kernel_rfl) rfl #[.string t, .int .i64 (wrap64 ((wrap64 (16 + (wrap64 (3 * m)))) + x10))] rfl (by (try simp only [List.map_toArray, List.map_cons, List.map_nil]); first | done | rfl) ?_; (with_reducible refine (cmap_two.calls t (wrap64 ((wrap64 (16 + (wrap64 (3 * m)))) + x10)) _ _ FO.out).mono ?_); rintro e w' ⟨rfl, ⟨nd, rfl⟩⟩; refine ⟨_, rfl, ?_⟩))
          go_ret
          exact ⟨rfl, by first | exact HA.out | (repeat apply Acc.drewN); exact HA.out, by repeat (first | (with_reducible first | exact HB.out | apply pw_below_drewN) | exact HB.out)⟩
        · have d2 : decide (l < fr) = false := decide_eq_false c2
          rw [if_neg (fun hh => by rcases hh with h | h <;> contradiction)] at hE
          have HFL : Aside0 (fr ≤ l) := ⟨by omega⟩
          have HLN := Aside0.mk (segRun_len t n d fr dl (sP m x10) off (segE l - fr).toNat fr ys)
          generalize hRun : segRun t n d fr dl (sP m x10) off (segE l - fr).toNat fr ys = run at *
          obtain ⟨p, qs⟩ := run
          have HRun := Aside0.mk hRun
          have HE := Aside0.mk hE
          clear hRun hE c1 c2
          go_wp2_with (first | ((with_reducible refine gate_callee (f := 33) rfl ?_); refine goesL_ (some 59) rfl rfl Try.func33 (by kernel_rfl) rfl #[.string t, .int .i64 (wrap64 (14 + x10))] rfl (by (try simp only [List.map_toArray, List.map_cons, List.map_nil]); first | done | rfl) ?_; (with_reducible refine (cmap_two.calls t (wrap64 (14 + x10)) _ _ FL.out).mono ?_); rintro e w' ⟨rfl, ⟨nd, rfl⟩⟩; refine ⟨_, rfl, ?_⟩) | ((with_reducible refine gate_callee (f := 33) rfl ?_); refine goesL_ (some 65) rfl rfl Try.func33 (by kernel_rfl) rfl #[.string t, .int .i64 (wrap64 ((wrap64 (16 + m)) + x10))] rfl (by (try simp only [List.map_toArray, List.map_cons, List.map_nil]); first | done | rfl) ?_; (with_reducible refine (cmap_two.calls t (wrap64 ((wrap64 (16 + m)) + x10)) _ _ FF.out).mono ?_); rintro e w' ⟨rfl, ⟨nd, rfl⟩⟩; refine ⟨_, rfl, ?_⟩) | ((with_reducible refine gate_callee (f := 33) rfl ?_); refine goesL_ (some 72) rfl rfl Try.func33 (by kernel_rfl) rfl #[.string t, .int .i64 (wrap64 ((wrap64 (16 + (wrap64 (2 * m)))) + x10))] rfl (by (try simp only [List.map_toArray, List.map_cons, List.map_nil]); first | done | rfl) ?_; (with_reducible refine (cmap_two.calls t (wrap64 ((wrap64 (16 + (wrap64 (2 * m)))) + x10)) _ _ FD.out).mono ?_); rintro e w' ⟨rfl, ⟨nd, rfl⟩⟩; refine ⟨_, rfl, ?_⟩) | ((with_reducible refine gate_callee (f := 33) rfl ?_); refine goesL_ (some 88) rfl rfl Try.func33 (by kernel_rfl) rfl #[.string t, .int .i64 (wrap64 ((wrap64 (16 + (wrap64 (3 * m)))) + x10))] rfl (by (try simp only [List.map_toArray, List.map_cons, List.map_nil]); first | done | rfl) ?_; (with_reducible refine (cmap_two.calls t (wrap64 ((wrap64 (16 + (wrap64 (3 * m)))) + x10)) _ _ FO.out).mono ?_); rintro e w' ⟨rfl, ⟨nd, rfl⟩⟩; refine ⟨_, rfl, ?_⟩))
          go_loopg [16] (segE l - fr).toNat (fun kq v16 w' => ∃ (x16 : Int) (us : List S47), v16 = .int .i64 x16 ∧ Aside0 (fr ≤ x16 ∧ x16 + kq = segE l ∧ us.length + kq ≤ ys.length + 65536) ∧ Aside0 (segRun t n d fr dl (sP m x10) off kq x16 us = (p, qs)) ∧ Aside0 (Acc w0 w' g us) ∧ Aside0 (Below w0.heap.size w0 w'))
          case atStart => exact ⟨fr, ys, rfl, ⟨by have := HFL.out; have := HBF.out; have := HBL.out; unfold segE; constructor; omega; constructor; (split <;> omega); (split <;> omega)⟩, ⟨HRun.out⟩, ⟨by first | exact HA.out | (repeat apply Acc.drewN); exact HA.out⟩, ⟨by repeat (first | (with_reducible first | exact HB.out | apply pw_below_drewN) | exact HB.out)⟩⟩
          case round =>
            clear d1 d2 FL FF FD FO HA HB
            obtain ⟨x16, us, rfl, HJ, HK, HA, HB⟩ := hrel
            cases gk with
            | zero =>
              have hst : decide (x16 ≤ l) = false ∨ decide (x16 ≤ l) = true ∧ decide (x16 < 65535) = false := by
                have hJ := HJ.out; unfold segE at hJ
                by_cases c : x16 ≤ l
                · right; refine ⟨decide_eq_true c, decide_eq_false ?_⟩; split at hJ <;> omega
                · left; exact decide_eq_false c
              have hK := HK.out
              simp only [segRun, Prod.mk.injEq] at hK
              obtain ⟨rfl, rfl⟩ := hK
              rcases hst with d3 | ⟨d3, d4⟩
              all_goals
                go_wp2
                go_roundg k
                case measure => omega
                case rel =>
                  have hI := HI.out
                  have hM := HM.out
                  refine ⟨l, wrap64 (x10 + 2), us, rfl, rfl, ⟨?_⟩, ⟨?_⟩, ⟨by first | exact HA.out | (repeat apply Acc.drewN); exact HA.out⟩, ⟨by repeat (first | (with_reducible first | exact HB.out | apply pw_below_drewN) | exact HB.out)⟩⟩
                  · have := HLN.out
                    have := HBL.out
                    have hj : segE l ≤ 65535 := by unfold segE; split <;> omega
                    have := HBF.out
                    rw [wrap64_small (by omega) (by omega)]; refine ⟨by omega, by omega, ?_⟩
                    omega
                  · rw [wrap64_small (x := x10 + 2) (by omega) (by omega)]
                    have h_ := HE.out
                    simpa only [if_pos] using h_
            | succ k2 =>
              have hJ := HJ.out
              have hjl : x16 ≤ l ∧ x16 < 65535 := by unfold segE at hJ; split at hJ <;> omega
              have d3 : decide (x16 ≤ l) = true := decide_eq_true hjl.1
              have d4 : decide (x16 < 65535) = true := decide_eq_true hjl.2
              have HX : Aside0 (0 ≤ x16 ∧ x16 < 65535 ∧ fr ≤ x16) := ⟨by have := HBF.out; omega⟩
              have HL : Aside0 (us.length < 5864062014805) := ⟨by have := HI.out; omega⟩
              have HFIN : Aside0 (p = false → (b, zs) = (false, qs)) := ⟨fun h => by have h_ := HE.out; subst h; simpa using h_.symm⟩
              have HNX : Aside0 (∀ us' : List S47, us'.length ≤ us.length + 1 → (fr ≤ wrap64 (x16 + 1) ∧ wrap64 (x16 + 1) + (k2 : Int) = segE l ∧ us'.length + k2 ≤ ys.length + 65536) ∧ wrap64 (x16 + 1) = x16 + 1) := ⟨fun us' h => by have := HBF.out; have e : wrap64 (x16 + 1) = x16 + 1 := wrap64_small (by omega) (by omega); rw [e]; exact ⟨by omega, rfl⟩⟩
              clear hJ hjl
              by_cases hsur : 55296 ≤ x16 ∧ x16 ≤ 57343
              · have d5 : decide (55296 ≤ x16) = true := decide_eq_true hsur.1
                have d6 : decide (x16 ≤ 57343) = true := decide_eq_true hsur.2
                have HN := Aside0.mk ((segRun_sur hsur).symm.trans HK.out)
                clear hsur HK
                go_wp2
                go_roundg k2
                case measure => omega
                case rel =>
                  exact ⟨wrap64 (x16 + 1), us, rfl, ⟨(HNX.out us (by omega)).1⟩, ⟨by rw [(HNX.out us (by omega)).2]; exact HN.out⟩, ⟨by first | exact HA.out | (repeat apply Acc.drewN); exact HA.out⟩, ⟨by repeat (first | (with_reducible first | exact HB.out | apply pw_below_drewN) | exact HB.out)⟩⟩
              · have hst : decide (55296 ≤ x16) = false ∨ decide (55296 ≤ x16) = true ∧ decide (x16 ≤ 57343) = false := by
                  by_cases c : 55296 ≤ x16
                  · right; refine ⟨decide_eq_true c, decide_eq_false ?_⟩; omega
                  · left; exact decide_eq_false c
                have HNS := Aside0.mk hsur
                have eg : Go.bits .and .i64 (wrap64 (x16 + dl)) 65535 = (x16 + dl) % 65536 := by
                  have := HX.out; have := HBD.out
                  rw [wrap64_small (x := x16 + dl) (by omega) (by omega), i64_and16 _ (by omega) (by omega)]
                clear hsur
                by_cases c7 : off = 0
                · have HG : segG t d fr dl (sP m x10) off x16 = some (Go.bits .and .i64 (wrap64 (x16 + dl)) 65535) := by unfold segG; rw [if_pos c7, eg]
                  have d7 : (off == 0) = true := beq_iff_eq.2 c7
                  have d7' : (off != 0) = false := by simp only [bne, d7, Bool.not_true]
                  clear eg
                  generalize hgg : Go.bits .and .i64 (wrap64 (x16 + dl)) 65535 = gg at *
                  by_cases c8 : n ≤ gg
                  · have d8 : decide (n ≤ gg) = true := decide_eq_true c8
                    obtain ⟨rfl, rfl⟩ := (Prod.mk.injEq _ _ _ _ ▸ ((segRun_big HNS.out HG c8).symm.trans HK.out) : false = p ∧ us = qs)
                    obtain ⟨rfl, rfl⟩ := (Prod.mk.injEq _ _ _ _ ▸ (HFIN.out rfl) : b = false ∧ zs = us)
                    subst hgg
                    clear c7 c8 HG HK
                    rcases hst with d5 | ⟨d5, d6⟩
                    all_goals
                      go_wp2
                      go_ret
                      exact ⟨rfl, by first | exact HA.out | (repeat apply Acc.drewN); exact HA.out, by repeat (first | (with_reducible first | exact HB.out | apply pw_below_drewN) | exact HB.out)⟩
                  · have d8 : decide (n ≤ gg) = false := decide_eq_false c8
                    have HN := Aside0.mk ((segRun_take HNS.out HG c8).symm.trans HK.out)
                    subst hgg
                    clear c7 c8 HG HK
                    rcases hst with d5 | ⟨d5, d6⟩
                    all_goals
                      go_wp2_with (first | (go_at_call 35; refine (take_calls w0 _ g _ HL.out x16 (Go.bits .and .i64 (wrap64 (x16 + dl)) 65535) (by first | exact HA.out | (repeat apply Acc.drewN); exact HA.out) (by repeat (first | (with_reducible first | exact HB.out | apply pw_below_drewN) | exact HB.out))).mono ?_; rintro e w1 ⟨rfl, ha1, hb1⟩; have HA1 := Aside0.mk ha1; have HB1 := Aside0.mk hb1; clear ha1 hb1))
                      go_roundg k2
                      case measure => omega
                      case rel =>
                        have hl_ := takeS_len us x16 (Go.bits .and .i64 (wrap64 (x16 + dl)) 65535)
                        exact ⟨wrap64 (x16 + 1), _, rfl, ⟨(HNX.out _ hl_).1⟩, ⟨by rw [(HNX.out us (by omega)).2]; exact HN.out⟩, ⟨by first | exact HA1.out | (repeat apply Acc.drewN); exact HA1.out⟩, ⟨by first | exact HB1.out | (repeat apply pw_below_drewN); exact HB1.out⟩⟩
                · have d7 : (off == 0) = false := beq_eq_false_iff_ne.2 c7
                  have d7' : (off != 0) = true := by simp only [bne, d7, Bool.not_false]
                  have eo : Int.tmod off 2 = off % 2 := Int.tmod_eq_emod_of_nonneg (by have := HBO.out; omega)
                  clear eg
                  by_cases c8 : off % 2 = 0
                  · have d8 : (Int.tmod off 2 == 0) = true := by rw [eo]; exact beq_iff_eq.2 c8
                    have d8' : (Int.tmod off 2 != 0) = false := by simp only [bne, d8, Bool.not_true]
                    have ea : (wrap64 ((wrap64 ((wrap64 ((wrap64 (16 + (wrap64 (3 * m)))) + x10)) + off)) + (wrap64 (2 * (wrap64 (x16 - fr)))))) = sP m x10 + off + 2 * (x16 - fr) := by
                      have := HX.out; have := HBO.out; have := HBF.out; have := HM.out; have := HI.out
                      rw [HP.out]; unfold sP
                      rw [wrap64_small (x := x16 - fr) (by omega) (by omega), wrap64_small (x := 2 * (x16 - fr)) (by omega) (by omega), wrap64_small (x := 16 + 3 * m + x10 + off) (by omega) (by omega), wrap64_small (by omega) (by omega)]
                    have ea2 : wrap64 ((wrap64 ((wrap64 ((wrap64 ((wrap64 (16 + (wrap64 (3 * m)))) + x10)) + off)) + (wrap64 (2 * (wrap64 (x16 - fr)))))) + 2) = sP m x10 + off + 2 * (x16 - fr) + 2 := by
                      rw [ea]
                      have := HX.out; have := HBO.out; have := HBF.out; have := HM.out; have := HI.out
                      unfold sP
                      rw [wrap64_small (by omega) (by omega)]
                    by_cases c9 : d < sP m x10 + off + 2 * (x16 - fr) + 2
                    · have d9 : decide (d < wrap64 ((wrap64 ((wrap64 ((wrap64 ((wrap64 (16 + (wrap64 (3 * m)))) + x10)) + off)) + (wrap64 (2 * (wrap64 (x16 - fr)))))) + 2)) = true := by rw [ea2]; exact decide_eq_true c9
                      have HG : segG t d fr dl (sP m x10) off x16 = none := by unfold segG; rw [if_neg c7, if_neg (fun h => h c8), if_pos c9]
                      obtain ⟨rfl, rfl⟩ := (Prod.mk.injEq _ _ _ _ ▸ ((segRun_none HNS.out HG).symm.trans HK.out) : false = p ∧ us = qs)
                      obtain ⟨rfl, rfl⟩ := (Prod.mk.injEq _ _ _ _ ▸ (HFIN.out rfl) : b = false ∧ zs = us)
                      clear c7 c8 c9 HG HK eo ea ea2
                      rcases hst with d5 | ⟨d5, d6⟩
                      all_goals
                        go_wp2
                        go_ret
                        exact ⟨rfl, by first | exact HA.out | (repeat apply Acc.drewN); exact HA.out, by repeat (first | (with_reducible first | exact HB.out | apply pw_below_drewN) | exact HB.out)⟩
                    · have d9 : decide (d < wrap64 ((wrap64 ((wrap64 ((wrap64 ((wrap64 (16 + (wrap64 (3 * m)))) + x10)) + off)) + (wrap64 (2 * (wrap64 (x16 - fr)))))) + 2)) = false := by rw [ea2]; exact decide_eq_false c9
                      have FT : Aside0 (cmap_two.f t (wrap64 ((wrap64 ((wrap64 ((wrap64 (16 + (wrap64 (3 * m)))) + x10)) + off)) + (wrap64 (2 * (wrap64 (x16 - fr)))))) = some (tw t (sP m x10 + off + 2 * (x16 - fr)))) := ⟨by
                        have := HX.out; have := HBO.out; have := HBF.out; have := HM.out; have := HI.out
                        rw [ea]; exact two_f t _ (by unfold sP; omega) (by omega) HS.out⟩
                      have hbt := tw_bd t (sP m x10 + off + 2 * (x16 - fr))
                      have HG0 : segG t d fr dl (sP m x10) off x16 = if tw t (sP m x10 + off + 2 * (x16 - fr)) = 0 then some 0 else some ((tw t (sP m x10 + off + 2 * (x16 - fr)) + dl) % 65536) := by unfold segG; rw [if_neg c7, if_neg (fun h => h c8), if_neg c9]
                      generalize tw t (sP m x10 + off + 2 * (x16 - fr)) = y at *
                      clear c7 c8 c9 eo ea ea2
                      by_cases c10 : y = 0
                      · subst c10
                        have HG : segG t d fr dl (sP m x10) off x16 = some 0 := by rw [HG0, if_pos rfl]
                        by_cases c8 : n ≤ 0
                        · have d10 : decide (n ≤ 0) = true := decide_eq_true c8
                          obtain ⟨rfl, rfl⟩ := (Prod.mk.injEq _ _ _ _ ▸ ((segRun_big HNS.out HG c8).symm.trans HK.out) : false = p ∧ us = qs)
                          obtain ⟨rfl, rfl⟩ := (Prod.mk.injEq _ _ _ _ ▸ (HFIN.out rfl) : b = false ∧ zs = us)
                          clear c8 HG HG0 HK hbt
                          rcases hst with d5 | ⟨d5, d6⟩
                          all_goals
                            go_wp2_with (first | ((with_reducible refine gate_callee (f := 33) rfl ?_); refine goesL_ (some 130) rfl rfl Try.func33 (by kernel_rfl) rfl #[.string t, .int .i64 (wrap64 ((wrap64 ((wrap64 ((wrap64 (16 + (wrap64 (3 * m)))) + x10)) + off)) + (wrap64 (2 * (wrap64 (x16 - fr))))))] rfl (by (try simp only [List.map_toArray, List.map_cons, List.map_nil]); first | done | rfl) ?_; (with_reducible refine (cmap_two.calls t (wrap64 ((wrap64 ((wrap64 ((wrap64 (16 + (wrap64 (3 * m)))) + x10)) + off)) + (wrap64 (2 * (wrap64 (x16 - fr)))))) _ _ FT.out).mono ?_); rintro e w' ⟨rfl, ⟨nd, rfl⟩⟩; refine ⟨_, rfl, ?_⟩))
                            go_ret
                            exact ⟨rfl, by first | exact HA.out | (repeat apply Acc.drewN); exact HA.out, by repeat (first | (with_reducible first | exact HB.out | apply pw_below_drewN) | exact HB.out)⟩
                        · have d10 : decide (n ≤ 0) = false := decide_eq_false c8
                          have HN := Aside0.mk ((segRun_take HNS.out HG c8).symm.trans HK.out)
                          clear c8 HG HG0 HK hbt
                          rcases hst with d5 | ⟨d5, d6⟩
                          all_goals
                            go_wp2_with (first | ((with_reducible refine gate_callee (f := 33) rfl ?_); refine goesL_ (some 130) rfl rfl Try.func33 (by kernel_rfl) rfl #[.string t, .int .i64 (wrap64 ((wrap64 ((wrap64 ((wrap64 (16 + (wrap64 (3 * m)))) + x10)) + off)) + (wrap64 (2 * (wrap64 (x16 - fr))))))] rfl (by (try simp only [List.map_toArray, List.map_cons, List.map_nil]); first | done | rfl) ?_; (with_reducible refine (cmap_two.calls t (wrap64 ((wrap64 ((wrap64 ((wrap64 (16 + (wrap64 (3 * m)))) + x10)) + off)) + (wrap64 (2 * (wrap64 (x16 - fr)))))) _ _ FT.out).mono ?_); rintro e w' ⟨rfl, ⟨nd, rfl⟩⟩; refine ⟨_, rfl, ?_⟩) | (go_at_call 35; refine (take_calls w0 _ g _ HL.out x16 (0) (by first | exact HA.out | (repeat apply Acc.drewN); exact HA.out) (by repeat (first | (with_reducible first | exact HB.out | apply pw_below_drewN) | exact HB.out))).mono ?_; rintro e w1 ⟨rfl, ha1, hb1⟩; have HA1 := Aside0.mk ha1; have HB1 := Aside0.mk hb1; clear ha1 hb1))
                            go_roundg k2
                            case measure => omega
                            case rel =>
                              have hl_ := takeS_len us x16 0
                              exact ⟨wrap64 (x16 + 1), _, rfl, ⟨(HNX.out _ hl_).1⟩, ⟨by rw [(HNX.out us (by omega)).2]; exact HN.out⟩, ⟨by first | exact HA1.out | (repeat apply Acc.drewN); exact HA1.out⟩, ⟨by first | exact HB1.out | (repeat apply pw_below_drewN); exact HB1.out⟩⟩
                      · have d10 : (y == 0) = false := beq_eq_false_iff_ne.2 c10
                        have d10' : (y != 0) = true := by simp only [bne, d10, Bool.not_false]
                        have eg : Go.bits .and .i64 (wrap64 (y + dl)) 65535 = (y + dl) % 65536 := by
                          have := HX.out; have := HBD.out
                          rw [wrap64_small (x := y + dl) (by omega) (by omega), i64_and16 _ (by omega) (by omega)]
                        have HG : segG t d fr dl (sP m x10) off x16 = some (Go.bits .and .i64 (wrap64 (y + dl)) 65535) := by rw [HG0, if_neg c10, eg]
                        by_cases c8 : n ≤ Go.bits .and .i64 (wrap64 (y + dl)) 65535
                        · have d11 : decide (n ≤ Go.bits .and .i64 (wrap64 (y + dl)) 65535) = true := decide_eq_true c8
                          obtain ⟨rfl, rfl⟩ := (Prod.mk.injEq _ _ _ _ ▸ ((segRun_big HNS.out HG c8).symm.trans HK.out) : false = p ∧ us = qs)
                          obtain ⟨rfl, rfl⟩ := (Prod.mk.injEq _ _ _ _ ▸ (HFIN.out rfl) : b = false ∧ zs = us)
                          clear c8 HG HG0 HK hbt eg c10
                          rcases hst with d5 | ⟨d5, d6⟩
                          all_goals
                            go_wp2_with (first | ((with_reducible refine gate_callee (f := 33) rfl ?_); refine goesL_ (some 130) rfl rfl Try.func33 (by kernel_rfl) rfl #[.string t, .int .i64 (wrap64 ((wrap64 ((wrap64 ((wrap64 (16 + (wrap64 (3 * m)))) + x10)) + off)) + (wrap64 (2 * (wrap64 (x16 - fr))))))] rfl (by (try simp only [List.map_toArray, List.map_cons, List.map_nil]); first | done | rfl) ?_; (with_reducible refine (cmap_two.calls t (wrap64 ((wrap64 ((wrap64 ((wrap64 (16 + (wrap64 (3 * m)))) + x10)) + off)) + (wrap64 (2 * (wrap64 (x16 - fr)))))) _ _ FT.out).mono ?_); rintro e w' ⟨rfl, ⟨nd, rfl⟩⟩; refine ⟨_, rfl, ?_⟩))
                            go_ret
                            exact ⟨rfl, by first | exact HA.out | (repeat apply Acc.drewN); exact HA.out, by repeat (first | (with_reducible first | exact HB.out | apply pw_below_drewN) | exact HB.out)⟩
                        · have d11 : decide (n ≤ Go.bits .and .i64 (wrap64 (y + dl)) 65535) = false := decide_eq_false c8
                          have HN := Aside0.mk ((segRun_take HNS.out HG c8).symm.trans HK.out)
                          clear c8 HG HG0 HK hbt eg c10
                          rcases hst with d5 | ⟨d5, d6⟩
                          all_goals
                            go_wp2_with (first | ((with_reducible refine gate_callee (f := 33) rfl ?_); refine goesL_ (some 130) rfl rfl Try.func33 (by kernel_rfl) rfl #[.string t, .int .i64 (wrap64 ((wrap64 ((wrap64 ((wrap64 (16 + (wrap64 (3 * m)))) + x10)) + off)) + (wrap64 (2 * (wrap64 (x16 - fr))))))] rfl (by (try simp only [List.map_toArray, List.map_cons, List.map_nil]); first | done | rfl) ?_; (with_reducible refine (cmap_two.calls t (wrap64 ((wrap64 ((wrap64 ((wrap64 (16 + (wrap64 (3 * m)))) + x10)) + off)) + (wrap64 (2 * (wrap64 (x16 - fr)))))) _ _ FT.out).mono ?_); rintro e w' ⟨rfl, ⟨nd, rfl⟩⟩; refine ⟨_, rfl, ?_⟩) | (go_at_call 35; refine (take_calls w0 _ g _ HL.out x16 (Go.bits .and .i64 (wrap64 (y + dl)) 65535) (by first | exact HA.out | (repeat apply Acc.drewN); exact HA.out) (by repeat (first | (with_reducible first | exact HB.out | apply pw_below_drewN) | exact HB.out))).mono ?_; rintro e w1 ⟨rfl, ha1, hb1⟩; have HA1 := Aside0.mk ha1; have HB1 := Aside0.mk hb1; clear ha1 hb1))
                            go_roundg k2
                            case measure => omega
                            case rel =>
                              have hl_ := takeS_len us x16 (Go.bits .and .i64 (wrap64 (y + dl)) 65535)
                              exact ⟨wrap64 (x16 + 1), _, rfl, ⟨(HNX.out _ hl_).1⟩, ⟨by rw [(HNX.out us (by omega)).2]; exact HN.out⟩, ⟨by first | exact HA1.out | (repeat apply Acc.drewN); exact HA1.out⟩, ⟨by first | exact HB1.out | (repeat apply pw_below_drewN); exact HB1.out⟩⟩
                  · have d8 : (Int.tmod off 2 == 0) = false := by rw [eo]; exact beq_eq_false_iff_ne.2 c8
                    have d8' : (Int.tmod off 2 != 0) = true := by simp only [bne, d8, Bool.not_false]
                    have HG : segG t d fr dl (sP m x10) off x16 = none := by unfold segG; rw [if_neg c7, if_pos c8]
                    obtain ⟨rfl, rfl⟩ := (Prod.mk.injEq _ _ _ _ ▸ ((segRun_none HNS.out HG).symm.trans HK.out) : false = p ∧ us = qs)
                    obtain ⟨rfl, rfl⟩ := (Prod.mk.injEq _ _ _ _ ▸ (HFIN.out rfl) : b = false ∧ zs = us)
                    clear c7 c8 HG HK eo
                    rcases hst with d5 | ⟨d5, d6⟩
                    all_goals
                      go_wp2
                      go_ret
                      exact ⟨rfl, by first | exact HA.out | (repeat apply Acc.drewN); exact HA.out, by repeat (first | (with_reducible first | exact HB.out | apply pw_below_drewN) | exact HB.out)⟩

/-- the table of segments, walked -/
theorem segs_calls (w0 W : World) (g : Nat) (t : ByteArray) (n : Int) (xs : List S47) (hs : t.size ≤ 9223372036854775807) (hl : xs.length ≤ 4096) (hA : Acc w0 W g xs) (hB : Below w0.heap.size w0 W) :
    Calls Try.prog 22 #[.string t, .int .i64 n, .func (.func 35) #[] #[.pointer (some ⟨g, 0, none⟩)]] W fun e W' => e = .returned (.bool (segsS t n xs).1) ∧ Acc w0 W' g (segsS t n xs).2 ∧ Below w0.heap.size w0 W' := by
  unfold segsS
  by_cases h : (t.size : Int) < 8
  · rw [if_pos h]; exact segs_1 w0 W g t n xs _ hs hA hB h
  · rw [if_neg h]
    by_cases h2 : tw t 0 = 4
    · rw [if_neg (fun hh => hh h2)]
      by_cases h3 : tw t 6 < 2
      · rw [if_pos h3]; exact segs_3 w0 W g t n xs _ hs hA hB h h2 h3
      · rw [if_neg h3]
        by_cases h4 : tw t 6 % 2 = 0
        · rw [if_neg (fun hh => hh h4)]
          by_cases h5 : tw t 2 < 16 + 4 * tw t 6
          · rw [if_pos h5]; exact segs_5 w0 W g t n xs _ hs hA hB h h2 h3 h4 h5
          · rw [if_neg h5]
            by_cases h6 : (t.size : Int) < tw t 2
            · rw [if_pos h6]; exact segs_6 w0 W g t n xs _ hs hA hB h h2 h3 h4 h5 h6
            · rw [if_neg h6]; exact segs_7 w0 W g t n xs hs hl hA hB h h2 h3 h4 h5 h6
        · rw [if_pos h4]; exact segs_4 w0 W g t n xs _ hs hA hB h h2 h3 h4
    · rw [if_pos h2]; exact segs_2 w0 W g t n xs _ hs hA hB h h2

end Go.Proofs.Ytldcgkkbmnahiaa.Px
