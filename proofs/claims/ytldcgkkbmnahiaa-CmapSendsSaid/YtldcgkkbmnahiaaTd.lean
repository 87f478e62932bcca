/- the groups' ways that end early -/
import Derived.Test.YtldcgkkbmnahiaaTc
namespace Go.Proofs.Ytldcgkkbmnahiaa.Px
set_option linter.unusedSimpArgs false
set_option linter.unusedVariables false
open Go.RowKit Go.Proofs.YtldcgkkbmnahiaaW.PrintWords Go.Proofs.YtldcgkkbmnahiaaW.PrintLast Go.Proofs.YtldcgkkbmnahiaaW.PrintMore

set_option maxHeartbeats 4000000 in
set_option maxRecDepth 100000 in
theorem groups_1 (w0 W : World) (g : Nat) (t : ByteArray) (n : Int) (xs : List S47) (v : Value) (hs : t.size ≤ 9223372036854775807) (hA : Acc w0 W g xs) (hB : Below w0.heap.size w0 W) (h : (t.size : Int) < 16) :
    Calls Try.prog 21 #[.string t, .int .i64 n, v] W fun e W' => e = .returned (.bool false) ∧ Acc w0 W' g xs ∧ Below w0.heap.size w0 W' := by
  have HA := Aside0.mk hA
  have HB := Aside0.mk hB
  have hb1 : decide ((t.size : Int) < 16) = true := decide_eq_true h
  clear h
  clear hA hB
  go_enter Try.func21, Try.ntmps21
  go_wp2_with (first | fail)
  go_ret
  exact ⟨rfl, by first | exact HA.out | exact Acc.drewN HA.out _ | (repeat apply Acc.drewN); exact HA.out, by repeat (first | (with_reducible first | exact HB.out | apply pw_below_drewN) | exact HB.out)⟩

set_option maxHeartbeats 4000000 in
set_option maxRecDepth 100000 in
theorem groups_2 (w0 W : World) (g : Nat) (t : ByteArray) (n : Int) (xs : List S47) (v : Value) (hs : t.size ≤ 9223372036854775807) (hA : Acc w0 W g xs) (hB : Below w0.heap.size w0 W) (h : ¬ (t.size : Int) < 16) (h2 : fo t 0 ≠ 786432) :
    Calls Try.prog 21 #[.string t, .int .i64 n, v] W fun e W' => e = .returned (.bool false) ∧ Acc w0 W' g xs ∧ Below w0.heap.size w0 W' := by
  have HA := Aside0.mk hA
  have HB := Aside0.mk hB
  have F0 := Aside0.mk (four_f t 0 (by omega) (by omega) hs)
  have hb1 : decide ((t.size : Int) < 16) = false := decide_eq_false h
  have hb2 : (fo t 0 == 786432) = false := beq_eq_false_iff_ne.2 h2
  have hb2' : (fo t 0 != 786432) = true := by simp only [bne, hb2, Bool.not_true, Bool.not_false]
  generalize fo t 0 = y0 at *
  clear h h2 hs
  clear hA hB
  go_enter Try.func21, Try.ntmps21
  go_wp2_with (first | (go_at_call 34; (with_reducible refine (cmap_four.calls t 0 _ _ F0.out).mono ?_); rintro e w' ⟨rfl, ⟨nd, rfl⟩⟩))
  go_ret
  exact ⟨rfl, by first | exact HA.out | exact Acc.drewN HA.out _ | (repeat apply Acc.drewN); exact HA.out, by repeat (first | (with_reducible first | exact HB.out | apply pw_below_drewN) | exact HB.out)⟩

set_option maxHeartbeats 4000000 in
set_option maxRecDepth 100000 in
theorem groups_3 (w0 W : World) (g : Nat) (t : ByteArray) (n : Int) (xs : List S47) (v : Value) (hs : t.size ≤ 9223372036854775807) (hA : Acc w0 W g xs) (hB : Below w0.heap.size w0 W) (h : ¬ (t.size : Int) < 16) (h2 : fo t 0 = 786432) (h3 : 4096 < fo t 12) :
    Calls Try.prog 21 #[.string t, .int .i64 n, v] W fun e W' => e = .returned (.bool false) ∧ Acc w0 W' g xs ∧ Below w0.heap.size w0 W' := by
  have HA := Aside0.mk hA
  have HB := Aside0.mk hB
  have F0 := Aside0.mk (four_f t 0 (by omega) (by omega) hs)
  have F12 := Aside0.mk (four_f t 12 (by omega) (by omega) hs)
  have hb1 : decide ((t.size : Int) < 16) = false := decide_eq_false h
  have hb2 : (fo t 0 == 786432) = true := beq_iff_eq.2 h2
  have hb2' : (fo t 0 != 786432) = false := by simp only [bne, hb2, Bool.not_true, Bool.not_false]
  have hb3 : decide (4096 < fo t 12) = true := decide_eq_true h3
  generalize fo t 0 = y0 at *
  generalize fo t 12 = m at *
  clear h h2 hs h3
  clear hA hB
  go_enter Try.func21, Try.ntmps21
  go_wp2_with (first | (go_at_call 34; (with_reducible refine (cmap_four.calls t 0 _ _ F0.out).mono ?_); rintro e w' ⟨rfl, ⟨nd, rfl⟩⟩) | ((with_reducible refine gate_callee (f := 34) rfl ?_); refine goesL_ (some 24) rfl rfl Try.func34 (by kernel_rfl) rfl #[.string t, .int .i64 12] rfl (by (try simp only [List.map_toArray, List.map_cons, List.map_nil]); first | done | rfl) ?_; (with_reducible refine (cmap_four.calls t 12 _ _ F12.out).mono ?_); rintro e w' ⟨rfl, ⟨nd, rfl⟩⟩; refine ⟨_, rfl, ?_⟩))
  go_ret
  exact ⟨rfl, by first | exact HA.out | exact Acc.drewN HA.out _ | (repeat apply Acc.drewN); exact HA.out, by repeat (first | (with_reducible first | exact HB.out | apply pw_below_drewN) | exact HB.out)⟩

set_option maxHeartbeats 4000000 in
set_option maxRecDepth 100000 in
theorem groups_4 (w0 W : World) (g : Nat) (t : ByteArray) (n : Int) (xs : List S47) (v : Value) (hs : t.size ≤ 9223372036854775807) (hA : Acc w0 W g xs) (hB : Below w0.heap.size w0 W) (h : ¬ (t.size : Int) < 16) (h2 : fo t 0 = 786432) (h3 : ¬ 4096 < fo t 12) (h4 : fo t 4 ≠ 16 + 12 * fo t 12) :
    Calls Try.prog 21 #[.string t, .int .i64 n, v] W fun e W' => e = .returned (.bool false) ∧ Acc w0 W' g xs ∧ Below w0.heap.size w0 W' := by
  have HA := Aside0.mk hA
  have HB := Aside0.mk hB
  have F0 := Aside0.mk (four_f t 0 (by omega) (by omega) hs)
  have F12 := Aside0.mk (four_f t 12 (by omega) (by omega) hs)
  have F4 := Aside0.mk (four_f t 4 (by omega) (by omega) hs)
  have hb1 : decide ((t.size : Int) < 16) = false := decide_eq_false h
  have hb2 : (fo t 0 == 786432) = true := beq_iff_eq.2 h2
  have hb2' : (fo t 0 != 786432) = false := by simp only [bne, hb2, Bool.not_true, Bool.not_false]
  have hb3 : decide (4096 < fo t 12) = false := decide_eq_false h3
  have hm := fo_bd t 12
  have e1 : wrap64 (16 + wrap64 (12 * fo t 12)) = 16 + 12 * fo t 12 := by rw [wrap64_small (x := 12 * fo t 12) (by omega) (by omega), wrap64_small (by omega) (by omega)]
  have hb4 : (fo t 4 == wrap64 (16 + wrap64 (12 * fo t 12))) = false := by rw [e1]; exact beq_eq_false_iff_ne.2 h4
  have hb4' : (fo t 4 != wrap64 (16 + wrap64 (12 * fo t 12))) = true := by simp only [bne, hb4, Bool.not_false]
  generalize fo t 0 = y0 at *
  generalize fo t 12 = m at *
  generalize fo t 4 = y4 at *
  clear h h2 hs h3 h4 hm e1
  clear hA hB
  go_enter Try.func21, Try.ntmps21
  go_wp2_with (first | (go_at_call 34; (with_reducible refine (cmap_four.calls t 0 _ _ F0.out).mono ?_); rintro e w' ⟨rfl, ⟨nd, rfl⟩⟩) | ((with_reducible refine gate_callee (f := 34) rfl ?_); refine goesL_ (some 24) rfl rfl Try.func34 (by kernel_rfl) rfl #[.string t, .int .i64 12] rfl (by (try simp only [List.map_toArray, List.map_cons, List.map_nil]); first | done | rfl) ?_; (with_reducible refine (cmap_four.calls t 12 _ _ F12.out).mono ?_); rintro e w' ⟨rfl, ⟨nd, rfl⟩⟩; refine ⟨_, rfl, ?_⟩) | (go_at_call 34; (with_reducible refine (cmap_four.calls t 4 _ _ F4.out).mono ?_); rintro e w' ⟨rfl, ⟨nd, rfl⟩⟩))
  go_ret
  exact ⟨rfl, by first | exact HA.out | exact Acc.drewN HA.out _ | (repeat apply Acc.drewN); exact HA.out, by repeat (first | (with_reducible first | exact HB.out | apply pw_below_drewN) | exact HB.out)⟩

set_option maxHeartbeats 4000000 in
set_option maxRecDepth 100000 in
theorem groups_5 (w0 W : World) (g : Nat) (t : ByteArray) (n : Int) (xs : List S47) (v : Value) (hs : t.size ≤ 9223372036854775807) (hA : Acc w0 W g xs) (hB : Below w0.heap.size w0 W) (h : ¬ (t.size : Int) < 16) (h2 : fo t 0 = 786432) (h3 : ¬ 4096 < fo t 12) (h4 : fo t 4 = 16 + 12 * fo t 12) (h5 : (t.size : Int) < 16 + 12 * fo t 12) :
    Calls Try.prog 21 #[.string t, .int .i64 n, v] W fun e W' => e = .returned (.bool false) ∧ Acc w0 W' g xs ∧ Below w0.heap.size w0 W' := by
  have HA := Aside0.mk hA
  have HB := Aside0.mk hB
  have F0 := Aside0.mk (four_f t 0 (by omega) (by omega) hs)
  have F12 := Aside0.mk (four_f t 12 (by omega) (by omega) hs)
  have F4 := Aside0.mk (four_f t 4 (by omega) (by omega) hs)
  have hb1 : decide ((t.size : Int) < 16) = false := decide_eq_false h
  have hb2 : (fo t 0 == 786432) = true := beq_iff_eq.2 h2
  have hb2' : (fo t 0 != 786432) = false := by simp only [bne, hb2, Bool.not_true, Bool.not_false]
  have hb3 : decide (4096 < fo t 12) = false := decide_eq_false h3
  have hm := fo_bd t 12
  have e1 : wrap64 (16 + wrap64 (12 * fo t 12)) = 16 + 12 * fo t 12 := by rw [wrap64_small (x := 12 * fo t 12) (by omega) (by omega), wrap64_small (by omega) (by omega)]
  have hb4 : (fo t 4 == wrap64 (16 + wrap64 (12 * fo t 12))) = true := by rw [e1]; exact beq_iff_eq.2 h4
  have hb4' : (fo t 4 != wrap64 (16 + wrap64 (12 * fo t 12))) = false := by simp only [bne, hb4, Bool.not_true]
  have hb5 : decide ((t.size : Int) < wrap64 (16 + wrap64 (12 * fo t 12))) = true := by rw [e1]; exact decide_eq_true h5
  generalize fo t 0 = y0 at *
  generalize fo t 12 = m at *
  generalize fo t 4 = y4 at *
  clear h h2 hs h3 h4 hm e1 h5
  clear hA hB
  go_enter Try.func21, Try.ntmps21
  go_wp2_with (first | (go_at_call 34; (with_reducible refine (cmap_four.calls t 0 _ _ F0.out).mono ?_); rintro e w' ⟨rfl, ⟨nd, rfl⟩⟩) | ((with_reducible refine gate_callee (f := 34) rfl ?_); refine goesL_ (some 24) rfl rfl Try.func34 (by kernel_rfl) rfl #[.string t, .int .i64 12] rfl (by (try simp only [List.map_toArray, List.map_cons, List.map_nil]); first | done | rfl) ?_; (with_reducible refine (cmap_four.calls t 12 _ _ F12.out).mono ?_); rintro e w' ⟨rfl, ⟨nd, rfl⟩⟩; refine ⟨_, rfl, ?_⟩) | (go_at_call 34; (with_reducible refine (cmap_four.calls t 4 _ _ F4.out).mono ?_); rintro e w' ⟨rfl, ⟨nd, rfl⟩⟩))
  go_ret
  exact ⟨rfl, by first | exact HA.out | exact Acc.drewN HA.out _ | (repeat apply Acc.drewN); exact HA.out, by repeat (first | (with_reducible first | exact HB.out | apply pw_below_drewN) | exact HB.out)⟩

end Go.Proofs.Ytldcgkkbmnahiaa.Px
