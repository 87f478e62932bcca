/- the table's reader, walked -/
import Derived.Test.YtldcgkkbmnahiaaTg
namespace Go.Proofs.Ytldcgkkbmnahiaa.Px
set_option linter.unusedSimpArgs false
set_option linter.unusedVariables false
open Go.RowKit Go.Proofs.YtldcgkkbmnahiaaW.PrintWords Go.Proofs.YtldcgkkbmnahiaaW.PrintLast Go.Proofs.YtldcgkkbmnahiaaW.PrintMore

/-- what is read of a map of either format -/
def mapS (t : ByteArray) (n at_ : Int) (wide : Bool) : Bool × List S47 :=
  if wide = true then groupsS (t.extract at_.toNat t.size) n [] else segsS (t.extract at_.toNat t.size) n []
def doneS (p : Bool × List S47) : List S47 × Int :=
  if p.1 = true ∧ p.2.length ≤ 4096 then (p.2, 0) else ([], 110)
def readOf (t : ByteArray) (n : Int) (x : Int × Bool × Bool) : Option (List S47 × Int) :=
  if x.2.2 = false then some ([], 110)
  else if (t.size : Int) - 4 < x.1 then some ([], 110)
  else if x.1 < 0 then none
  else some (doneS (mapS t n x.1 x.2.1))
def readF (k : Nat) (t : ByteArray) (n : Int) : Option (List S47 × Int) :=
  if 9223372036854775807 < t.size then none
  else if n < 1 then some ([], 1)
  else if 4096 < n then some ([], 1)
  else (cmap_counted.f k t).bind fun x => readOf t n x
theorem readF_mono (a0 : ByteArray) (a1 : Int) (k : Nat) : LeO (readF k a0 a1) (readF (k + 1) a0 a1) := by
  unfold readF
  split
  · exact LeO.refl _
  · split
    · exact LeO.refl _
    · split
      · exact LeO.refl _
      · exact LeO.bind (cmap_counted.mono _ _) (fun _ => LeO.refl _)
theorem extract_size (t : ByteArray) (i : Nat) : (t.extract i t.size).size ≤ t.size := by
  rw [ByteArray.size_extract]; omega
theorem Acc.base {w0 w0' W : World} {g : Nat} {xs : List S47} (h : Acc w0' W g xs) (e : w0'.heap.size = w0.heap.size) : Acc w0 W g xs := by
  obtain ⟨v, hv, hg, hR⟩ := h
  rw [e] at hg hR
  exact ⟨v, hv, hg, hR⟩
set_option maxHeartbeats 8000000 in
set_option maxRecDepth 100000 in
theorem read_1 (t : ByteArray) (n : Int) (w : World) (h : n < 1) :
    Calls Try.prog 9 #[.string t, .int .i64 n] w fun e w' => ∃ v0_ : Value, e = .returned (.tuple #[v0_, .int .i64 1]) ∧ Kd.R k47 47 w' w.heap.size (fun _ => True) v0_ [] ∧ Below w.heap.size w w' := by
  have HB := Aside0.mk (Below.refl w.heap.size w)
  have d1 : decide (n < 1) = true := decide_eq_true h
  clear h
  go_enter Try.func9, Try.ntmps9
  go_wp2_with (first | fail)
  go_ret2
  exact ⟨_, rfl, by first | exact Kd.R_nil _ _ _ _ _ | exact Kd.N_nil _ _ _ _ _, by repeat (first | (with_reducible first | exact HB.out | apply pw_below_drewN) | exact HB.out)⟩

set_option maxHeartbeats 8000000 in
set_option maxRecDepth 100000 in
theorem read_2 (t : ByteArray) (n : Int) (w : World) (h : ¬ n < 1) (h2 : 4096 < n) :
    Calls Try.prog 9 #[.string t, .int .i64 n] w fun e w' => ∃ v0_ : Value, e = .returned (.tuple #[v0_, .int .i64 1]) ∧ Kd.R k47 47 w' w.heap.size (fun _ => True) v0_ [] ∧ Below w.heap.size w w' := by
  have HB := Aside0.mk (Below.refl w.heap.size w)
  have d1 : decide (n < 1) = false := decide_eq_false h
  have d2 : decide (4096 < n) = true := decide_eq_true h2
  clear h h2
  go_enter Try.func9, Try.ntmps9
  go_wp2_with (first | fail)
  go_ret2
  exact ⟨_, rfl, by first | exact Kd.R_nil _ _ _ _ _ | exact Kd.N_nil _ _ _ _ _, by repeat (first | (with_reducible first | exact HB.out | apply pw_below_drewN) | exact HB.out)⟩

set_option maxHeartbeats 8000000 in
set_option maxRecDepth 100000 in
theorem read_3 (t : ByteArray) (n : Int) (w : World) (h : ¬ n < 1) (h2 : ¬ 4096 < n) (hs : t.size ≤ 9223372036854775807) (k : Nat) (at_ : Int) (wide : Bool) (hc : cmap_counted.f k t = some (at_, wide, false)) :
    Calls Try.prog 9 #[.string t, .int .i64 n] w fun e w' => ∃ v0_ : Value, e = .returned (.tuple #[v0_, .int .i64 110]) ∧ Kd.R k47 47 w' w.heap.size (fun _ => True) v0_ [] ∧ Below w.heap.size w w' := by
  have HB := Aside0.mk (Below.refl w.heap.size w)
  have d1 : decide (n < 1) = false := decide_eq_false h
  have d2 : decide (4096 < n) = false := decide_eq_false h2
  have FC := Aside0.mk hc
  clear h h2 hc hs
  go_enter Try.func9, Try.ntmps9
  go_wp2_with (first | ((with_reducible refine gate_callee (f := 19) rfl ?_); refine goesL_ (some 20) rfl rfl Try.func19 (by kernel_rfl) rfl #[.string t] rfl (by (try simp only [List.map_toArray, List.map_cons, List.map_nil]); first | done | rfl) ?_; (with_reducible refine (cmap_counted.calls k t at_ wide false _ FC.out).mono ?_); rintro e w' ⟨rfl, ⟨nd, rfl⟩⟩; refine ⟨_, rfl, ?_⟩))
  go_ret2
  exact ⟨_, rfl, by first | exact Kd.R_nil _ _ _ _ _ | exact Kd.N_nil _ _ _ _ _, by repeat (first | (with_reducible first | exact HB.out | apply pw_below_drewN) | exact HB.out)⟩

set_option maxHeartbeats 8000000 in
set_option maxRecDepth 100000 in
theorem read_4 (t : ByteArray) (n : Int) (w : World) (h : ¬ n < 1) (h2 : ¬ 4096 < n) (hs : t.size ≤ 9223372036854775807) (k : Nat) (at_ : Int) (wide : Bool) (hc : cmap_counted.f k t = some (at_, wide, true)) (h4 : (t.size : Int) - 4 < at_) :
    Calls Try.prog 9 #[.string t, .int .i64 n] w fun e w' => ∃ v0_ : Value, e = .returned (.tuple #[v0_, .int .i64 110]) ∧ Kd.R k47 47 w' w.heap.size (fun _ => True) v0_ [] ∧ Below w.heap.size w w' := by
  have HB := Aside0.mk (Below.refl w.heap.size w)
  have d1 : decide (n < 1) = false := decide_eq_false h
  have d2 : decide (4096 < n) = false := decide_eq_false h2
  have FC := Aside0.mk hc
  have e4 : wrap64 ((t.size : Int) - 4) = (t.size : Int) - 4 := wrap64_small (by omega) (by omega)
  have d4 : decide (wrap64 ((t.size : Int) - 4) < at_) = true := by rw [e4]; exact decide_eq_true h4
  clear h h2 hc h4 e4 hs
  go_enter Try.func9, Try.ntmps9
  go_wp2_with (first | ((with_reducible refine gate_callee (f := 19) rfl ?_); refine goesL_ (some 20) rfl rfl Try.func19 (by kernel_rfl) rfl #[.string t] rfl (by (try simp only [List.map_toArray, List.map_cons, List.map_nil]); first | done | rfl) ?_; (with_reducible refine (cmap_counted.calls k t at_ wide true _ FC.out).mono ?_); rintro e w' ⟨rfl, ⟨nd, rfl⟩⟩; refine ⟨_, rfl, ?_⟩))
  go_ret2
  exact ⟨_, rfl, by first | exact Kd.R_nil _ _ _ _ _ | exact Kd.N_nil _ _ _ _ _, by repeat (first | (with_reducible first | exact HB.out | apply pw_below_drewN) | exact HB.out)⟩

set_option maxHeartbeats 8000000 in
set_option maxRecDepth 100000 in
theorem read_groupsS_a (t : ByteArray) (n : Int) (w : World) (h : ¬ n < 1) (h2 : ¬ 4096 < n) (hs : t.size ≤ 9223372036854775807) (k : Nat) (at_ : Int) (hc : cmap_counted.f k t = some (at_, true, true)) (h4 : ¬ (t.size : Int) - 4 < at_) (h5 : ¬ at_ < 0) (ys : List S47) (hp : groupsS (t.extract at_.toNat t.size) n [] = (false, ys)) :
    Calls Try.prog 9 #[.string t, .int .i64 n] w fun e w' => ∃ v0_ : Value, e = .returned (.tuple #[v0_, .int .i64 110]) ∧ Kd.R k47 47 w' w.heap.size (fun _ => True) v0_ [] ∧ Below w.heap.size w w' := by
  have HB := Aside0.mk (Below.refl w.heap.size w)
  have d1 : decide (n < 1) = false := decide_eq_false h
  have d2 : decide (4096 < n) = false := decide_eq_false h2
  have FC := Aside0.mk hc
  have e4 : wrap64 ((t.size : Int) - 4) = (t.size : Int) - 4 := wrap64_small (by omega) (by omega)
  have d4 : decide (wrap64 ((t.size : Int) - 4) < at_) = false := by rw [e4]; exact decide_eq_false h4
  have d5 : (0 ≤ at_) = True := eq_true (by omega)
  have d6 : (at_ ≤ (t.size : Int)) = True := eq_true (by omega)
  have HXS : Aside0 ((t.extract at_.toNat t.size).size ≤ 9223372036854775807) := ⟨by have := extract_size t at_.toNat; omega⟩
  have HP := Aside0.mk hp
  clear h h2 hc h4 h5 e4 hs hp
  go_enter Try.func9, Try.ntmps9
  go_wp2_with (first | ((with_reducible refine gate_callee (f := 19) rfl ?_); refine goesL_ (some 20) rfl rfl Try.func19 (by kernel_rfl) rfl #[.string t] rfl (by (try simp only [List.map_toArray, List.map_cons, List.map_nil]); first | done | rfl) ?_; (with_reducible refine (cmap_counted.calls k t at_ true true _ FC.out).mono ?_); rintro e w' ⟨rfl, ⟨nd, rfl⟩⟩; refine ⟨_, rfl, ?_⟩) | (go_at_call 20; refine (spans_calls _).mono ?_; rintro e w1 ⟨g, rfl, hacc, hbel⟩; have HA := Aside0.mk (Acc.base (w0 := w) hacc rfl); have HB1 : Aside0 (Below w.heap.size w w1) := ⟨Below.trans (pw_below_drewN HB.out nd) (show Below w.heap.size (w.drewN nd) w1 from hbel)⟩; clear hacc hbel) | (go_at_call 21; refine (groups_calls w _ g (t.extract at_.toNat t.size) n [] HXS.out (Nat.zero_le _) (by first | exact HA.out | (repeat apply Acc.drewN); exact HA.out) (by repeat (first | (with_reducible first | exact HB1.out | apply pw_below_drewN) | exact HB1.out))).mono ?_; rintro e w2 ⟨rfl, hacc2, hbel2⟩; rw [HP.out] at hacc2; rw [HP.out]; have HA2 := Aside0.mk hacc2; have HB2 := Aside0.mk hbel2; clear hacc2 hbel2) | (go_at_call 36; refine (list_calls w _ g ys (by first | exact HA2.out | (repeat apply Acc.drewN); exact HA2.out) (by repeat (first | (with_reducible first | exact HB2.out | apply pw_below_drewN) | exact HB2.out))).mono ?_; rintro e w3 ⟨v, rfl, hv, hbel3⟩; obtain ⟨A3, c3, rfl⟩ := Kd.R_slice hv; have HV := Aside0.mk hv; have HB3 := Aside0.mk hbel3; clear hv hbel3))
  go_ret2
  exact ⟨_, rfl, by first | exact Kd.R_nil _ _ _ _ _ | exact Kd.N_nil _ _ _ _ _, by repeat (first | (with_reducible first | exact HB3.out | apply pw_below_drewN) | exact HB3.out)⟩

set_option maxHeartbeats 8000000 in
set_option maxRecDepth 100000 in
theorem read_groupsS_b (t : ByteArray) (n : Int) (w : World) (h : ¬ n < 1) (h2 : ¬ 4096 < n) (hs : t.size ≤ 9223372036854775807) (k : Nat) (at_ : Int) (hc : cmap_counted.f k t = some (at_, true, true)) (h4 : ¬ (t.size : Int) - 4 < at_) (h5 : ¬ at_ < 0) (ys : List S47) (hp : groupsS (t.extract at_.toNat t.size) n [] = (true, ys)) (hlen : ys.length ≤ 4096) :
    Calls Try.prog 9 #[.string t, .int .i64 n] w fun e w' => ∃ v0_ : Value, e = .returned (.tuple #[v0_, .int .i64 0]) ∧ Kd.R k47 47 w' w.heap.size (fun _ => True) v0_ ys ∧ Below w.heap.size w w' := by
  have HB := Aside0.mk (Below.refl w.heap.size w)
  have d1 : decide (n < 1) = false := decide_eq_false h
  have d2 : decide (4096 < n) = false := decide_eq_false h2
  have FC := Aside0.mk hc
  have e4 : wrap64 ((t.size : Int) - 4) = (t.size : Int) - 4 := wrap64_small (by omega) (by omega)
  have d4 : decide (wrap64 ((t.size : Int) - 4) < at_) = false := by rw [e4]; exact decide_eq_false h4
  have d5 : (0 ≤ at_) = True := eq_true (by omega)
  have d6 : (at_ ≤ (t.size : Int)) = True := eq_true (by omega)
  have HXS : Aside0 ((t.extract at_.toNat t.size).size ≤ 9223372036854775807) := ⟨by have := extract_size t at_.toNat; omega⟩
  have HP := Aside0.mk hp
  have d7 : decide ((ys.length : Int) ≤ 4096) = true := decide_eq_true (by omega)
  have d7' : decide (ys.length ≤ 4096) = true := decide_eq_true hlen
  clear hlen
  clear h h2 hc h4 h5 e4 hs hp
  go_enter Try.func9, Try.ntmps9
  go_wp2_with (first | ((with_reducible refine gate_callee (f := 19) rfl ?_); refine goesL_ (some 20) rfl rfl Try.func19 (by kernel_rfl) rfl #[.string t] rfl (by (try simp only [List.map_toArray, List.map_cons, List.map_nil]); first | done | rfl) ?_; (with_reducible refine (cmap_counted.calls k t at_ true true _ FC.out).mono ?_); rintro e w' ⟨rfl, ⟨nd, rfl⟩⟩; refine ⟨_, rfl, ?_⟩) | (go_at_call 20; refine (spans_calls _).mono ?_; rintro e w1 ⟨g, rfl, hacc, hbel⟩; have HA := Aside0.mk (Acc.base (w0 := w) hacc rfl); have HB1 : Aside0 (Below w.heap.size w w1) := ⟨Below.trans (pw_below_drewN HB.out nd) (show Below w.heap.size (w.drewN nd) w1 from hbel)⟩; clear hacc hbel) | (go_at_call 21; refine (groups_calls w _ g (t.extract at_.toNat t.size) n [] HXS.out (Nat.zero_le _) (by first | exact HA.out | (repeat apply Acc.drewN); exact HA.out) (by repeat (first | (with_reducible first | exact HB1.out | apply pw_below_drewN) | exact HB1.out))).mono ?_; rintro e w2 ⟨rfl, hacc2, hbel2⟩; rw [HP.out] at hacc2; rw [HP.out]; have HA2 := Aside0.mk hacc2; have HB2 := Aside0.mk hbel2; clear hacc2 hbel2) | (go_at_call 36; refine (list_calls w _ g ys (by first | exact HA2.out | (repeat apply Acc.drewN); exact HA2.out) (by repeat (first | (with_reducible first | exact HB2.out | apply pw_below_drewN) | exact HB2.out))).mono ?_; rintro e w3 ⟨v, rfl, hv, hbel3⟩; obtain ⟨A3, c3, rfl⟩ := Kd.R_slice hv; have HV := Aside0.mk hv; have HB3 := Aside0.mk hbel3; clear hv hbel3))
  go_ret2
  exact ⟨_, rfl, (by (with_reducible repeat (first | apply Kd.R_drewN | apply Kd.R_drew)); exact HV.out), by repeat (first | (with_reducible first | exact HB3.out | apply pw_below_drewN) | exact HB3.out)⟩

set_option maxHeartbeats 8000000 in
set_option maxRecDepth 100000 in
theorem read_groupsS_c (t : ByteArray) (n : Int) (w : World) (h : ¬ n < 1) (h2 : ¬ 4096 < n) (hs : t.size ≤ 9223372036854775807) (k : Nat) (at_ : Int) (hc : cmap_counted.f k t = some (at_, true, true)) (h4 : ¬ (t.size : Int) - 4 < at_) (h5 : ¬ at_ < 0) (ys : List S47) (hp : groupsS (t.extract at_.toNat t.size) n [] = (true, ys)) (hlen : ¬ ys.length ≤ 4096) :
    Calls Try.prog 9 #[.string t, .int .i64 n] w fun e w' => ∃ v0_ : Value, e = .returned (.tuple #[v0_, .int .i64 110]) ∧ Kd.R k47 47 w' w.heap.size (fun _ => True) v0_ [] ∧ Below w.heap.size w w' := by
  have HB := Aside0.mk (Below.refl w.heap.size w)
  have d1 : decide (n < 1) = false := decide_eq_false h
  have d2 : decide (4096 < n) = false := decide_eq_false h2
  have FC := Aside0.mk hc
  have e4 : wrap64 ((t.size : Int) - 4) = (t.size : Int) - 4 := wrap64_small (by omega) (by omega)
  have d4 : decide (wrap64 ((t.size : Int) - 4) < at_) = false := by rw [e4]; exact decide_eq_false h4
  have d5 : (0 ≤ at_) = True := eq_true (by omega)
  have d6 : (at_ ≤ (t.size : Int)) = True := eq_true (by omega)
  have HXS : Aside0 ((t.extract at_.toNat t.size).size ≤ 9223372036854775807) := ⟨by have := extract_size t at_.toNat; omega⟩
  have HP := Aside0.mk hp
  have d7 : decide ((ys.length : Int) ≤ 4096) = false := decide_eq_false (by omega)
  have d7' : decide (ys.length ≤ 4096) = false := decide_eq_false hlen
  clear hlen
  clear h h2 hc h4 h5 e4 hs hp
  go_enter Try.func9, Try.ntmps9
  go_wp2_with (first | ((with_reducible refine gate_callee (f := 19) rfl ?_); refine goesL_ (some 20) rfl rfl Try.func19 (by kernel_rfl) rfl #[.string t] rfl (by (try simp only [List.map_toArray, List.map_cons, List.map_nil]); first | done | rfl) ?_; (with_reducible refine (cmap_counted.calls k t at_ true true _ FC.out).mono ?_); rintro e w' ⟨rfl, ⟨nd, rfl⟩⟩; refine ⟨_, rfl, ?_⟩) | (go_at_call 20; refine (spans_calls _).mono ?_; rintro e w1 ⟨g, rfl, hacc, hbel⟩; have HA := Aside0.mk (Acc.base (w0 := w) hacc rfl); have HB1 : Aside0 (Below w.heap.size w w1) := ⟨Below.trans (pw_below_drewN HB.out nd) (show Below w.heap.size (w.drewN nd) w1 from hbel)⟩; clear hacc hbel) | (go_at_call 21; refine (groups_calls w _ g (t.extract at_.toNat t.size) n [] HXS.out (Nat.zero_le _) (by first | exact HA.out | (repeat apply Acc.drewN); exact HA.out) (by repeat (first | (with_reducible first | exact HB1.out | apply pw_below_drewN) | exact HB1.out))).mono ?_; rintro e w2 ⟨rfl, hacc2, hbel2⟩; rw [HP.out] at hacc2; rw [HP.out]; have HA2 := Aside0.mk hacc2; have HB2 := Aside0.mk hbel2; clear hacc2 hbel2) | (go_at_call 36; refine (list_calls w _ g ys (by first | exact HA2.out | (repeat apply Acc.drewN); exact HA2.out) (by repeat (first | (with_reducible first | exact HB2.out | apply pw_below_drewN) | exact HB2.out))).mono ?_; rintro e w3 ⟨v, rfl, hv, hbel3⟩; obtain ⟨A3, c3, rfl⟩ := Kd.R_slice hv; have HV := Aside0.mk hv; have HB3 := Aside0.mk hbel3; clear hv hbel3))
  go_ret2
  exact ⟨_, rfl, by first | exact Kd.R_nil _ _ _ _ _ | exact Kd.N_nil _ _ _ _ _, by repeat (first | (with_reducible first | exact HB3.out | apply pw_below_drewN) | exact HB3.out)⟩

set_option maxHeartbeats 8000000 in
set_option maxRecDepth 100000 in
theorem read_segsS_a (t : ByteArray) (n : Int) (w : World) (h : ¬ n < 1) (h2 : ¬ 4096 < n) (hs : t.size ≤ 9223372036854775807) (k : Nat) (at_ : Int) (hc : cmap_counted.f k t = some (at_, false, true)) (h4 : ¬ (t.size : Int) - 4 < at_) (h5 : ¬ at_ < 0) (ys : List S47) (hp : segsS (t.extract at_.toNat t.size) n [] = (false, ys)) :
    Calls Try.prog 9 #[.string t, .int .i64 n] w fun e w' => ∃ v0_ : Value, e = .returned (.tuple #[v0_, .int .i64 110]) ∧ Kd.R k47 47 w' w.heap.size (fun _ => True) v0_ [] ∧ Below w.heap.size w w' := by
  have HB := Aside0.mk (Below.refl w.heap.size w)
  have d1 : decide (n < 1) = false := decide_eq_false h
  have d2 : decide (4096 < n) = false := decide_eq_false h2
  have FC := Aside0.mk hc
  have e4 : wrap64 ((t.size : Int) - 4) = (t.size : Int) - 4 := wrap64_small (by omega) (by omega)
  have d4 : decide (wrap64 ((t.size : Int) - 4) < at_) = false := by rw [e4]; exact decide_eq_false h4
  have d5 : (0 ≤ at_) = True := eq_true (by omega)
  have d6 : (at_ ≤ (t.size : Int)) = True := eq_true (by omega)
  have HXS : Aside0 ((t.extract at_.toNat t.size).size ≤ 9223372036854775807) := ⟨by have := extract_size t at_.toNat; omega⟩
  have HP := Aside0.mk hp
  clear h h2 hc h4 h5 e4 hs hp
  go_enter Try.func9, Try.ntmps9
  go_wp2_with (first | ((with_reducible refine gate_callee (f := 19) rfl ?_); refine goesL_ (some 20) rfl rfl Try.func19 (by kernel_rfl) rfl #[.string t] rfl (by (try simp only [List.map_toArray, List.map_cons, List.map_nil]); first | done | rfl) ?_; (with_reducible refine (cmap_counted.calls k t at_ false true _ FC.out).mono ?_); rintro e w' ⟨rfl, ⟨nd, rfl⟩⟩; refine ⟨_, rfl, ?_⟩) | (go_at_call 20; refine (spans_calls _).mono ?_; rintro e w1 ⟨g, rfl, hacc, hbel⟩; have HA := Aside0.mk (Acc.base (w0 := w) hacc rfl); have HB1 : Aside0 (Below w.heap.size w w1) := ⟨Below.trans (pw_below_drewN HB.out nd) (show Below w.heap.size (w.drewN nd) w1 from hbel)⟩; clear hacc hbel) | (go_at_call 22; refine (segs_calls w _ g (t.extract at_.toNat t.size) n [] HXS.out (Nat.zero_le _) (by first | exact HA.out | (repeat apply Acc.drewN); exact HA.out) (by repeat (first | (with_reducible first | exact HB1.out | apply pw_below_drewN) | exact HB1.out))).mono ?_; rintro e w2 ⟨rfl, hacc2, hbel2⟩; rw [HP.out] at hacc2; rw [HP.out]; have HA2 := Aside0.mk hacc2; have HB2 := Aside0.mk hbel2; clear hacc2 hbel2) | (go_at_call 36; refine (list_calls w _ g ys (by first | exact HA2.out | (repeat apply Acc.drewN); exact HA2.out) (by repeat (first | (with_reducible first | exact HB2.out | apply pw_below_drewN) | exact HB2.out))).mono ?_; rintro e w3 ⟨v, rfl, hv, hbel3⟩; obtain ⟨A3, c3, rfl⟩ := Kd.R_slice hv; have HV := Aside0.mk hv; have HB3 := Aside0.mk hbel3; clear hv hbel3))
  go_ret2
  exact ⟨_, rfl, by first | exact Kd.R_nil _ _ _ _ _ | exact Kd.N_nil _ _ _ _ _, by repeat (first | (with_reducible first | exact HB3.out | apply pw_below_drewN) | exact HB3.out)⟩

set_option maxHeartbeats 8000000 in
set_option maxRecDepth 100000 in
theorem read_segsS_b (t : ByteArray) (n : Int) (w : World) (h : ¬ n < 1) (h2 : ¬ 4096 < n) (hs : t.size ≤ 9223372036854775807) (k : Nat) (at_ : Int) (hc : cmap_counted.f k t = some (at_, false, true)) (h4 : ¬ (t.size : Int) - 4 < at_) (h5 : ¬ at_ < 0) (ys : List S47) (hp : segsS (t.extract at_.toNat t.size) n [] = (true, ys)) (hlen : ys.length ≤ 4096) :
    Calls Try.prog 9 #[.string t, .int .i64 n] w fun e w' => ∃ v0_ : Value, e = .returned (.tuple #[v0_, .int .i64 0]) ∧ Kd.R k47 47 w' w.heap.size (fun _ => True) v0_ ys ∧ Below w.heap.size w w' := by
  have HB := Aside0.mk (Below.refl w.heap.size w)
  have d1 : decide (n < 1) = false := decide_eq_false h
  have d2 : decide (4096 < n) = false := decide_eq_false h2
  have FC := Aside0.mk hc
  have e4 : wrap64 ((t.size : Int) - 4) = (t.size : Int) - 4 := wrap64_small (by omega) (by omega)
  have d4 : decide (wrap64 ((t.size : Int) - 4) < at_) = false := by rw [e4]; exact decide_eq_false h4
  have d5 : (0 ≤ at_) = True := eq_true (by omega)
  have d6 : (at_ ≤ (t.size : Int)) = True := eq_true (by omega)
  have HXS : Aside0 ((t.extract at_.toNat t.size).size ≤ 9223372036854775807) := ⟨by have := extract_size t at_.toNat; omega⟩
  have HP := Aside0.mk hp
  have d7 : decide ((ys.length : Int) ≤ 4096) = true := decide_eq_true (by omega)
  have d7' : decide (ys.length ≤ 4096) = true := decide_eq_true hlen
  clear hlen
  clear h h2 hc h4 h5 e4 hs hp
  go_enter Try.func9, Try.ntmps9
  go_wp2_with (first | ((with_reducible refine gate_callee (f := 19) rfl ?_); refine goesL_ (some 20) rfl rfl Try.func19 (by kernel_rfl) rfl #[.string t] rfl (by (try simp only [List.map_toArray, List.map_cons, List.map_nil]); first | done | rfl) ?_; (with_reducible refine (cmap_counted.calls k t at_ false true _ FC.out).mono ?_); rintro e w' ⟨rfl, ⟨nd, rfl⟩⟩; refine ⟨_, rfl, ?_⟩) | (go_at_call 20; refine (spans_calls _).mono ?_; rintro e w1 ⟨g, rfl, hacc, hbel⟩; have HA := Aside0.mk (Acc.base (w0 := w) hacc rfl); have HB1 : Aside0 (Below w.heap.size w w1) := ⟨Below.trans (pw_below_drewN HB.out nd) (show Below w.heap.size (w.drewN nd) w1 from hbel)⟩; clear hacc hbel) | (go_at_call 22; refine (segs_calls w _ g (t.extract at_.toNat t.size) n [] HXS.out (Nat.zero_le _) (by first | exact HA.out | (repeat apply Acc.drewN); exact HA.out) (by repeat (first | (with_reducible first | exact HB1.out | apply pw_below_drewN) | exact HB1.out))).mono ?_; rintro e w2 ⟨rfl, hacc2, hbel2⟩; rw [HP.out] at hacc2; rw [HP.out]; have HA2 := Aside0.mk hacc2; have HB2 := Aside0.mk hbel2; clear hacc2 hbel2) | (go_at_call 36; refine (list_calls w _ g ys (by first | exact HA2.out | (repeat apply Acc.drewN); exact HA2.out) (by repeat (first | (with_reducible first | exact HB2.out | apply pw_below_drewN) | exact HB2.out))).mono ?_; rintro e w3 ⟨v, rfl, hv, hbel3⟩; obtain ⟨A3, c3, rfl⟩ := Kd.R_slice hv; have HV := Aside0.mk hv; have HB3 := Aside0.mk hbel3; clear hv hbel3))
  go_ret2
  exact ⟨_, rfl, (by (with_reducible repeat (first | apply Kd.R_drewN | apply Kd.R_drew)); exact HV.out), by repeat (first | (with_reducible first | exact HB3.out | apply pw_below_drewN) | exact HB3.out)⟩

set_option maxHeartbeats 8000000 in
set_option maxRecDepth 100000 in
theorem read_segsS_c (t : ByteArray) (n : Int) (w : World) (h : ¬ n < 1) (h2 : ¬ 4096 < n) (hs : t.size ≤ 9223372036854775807) (k : Nat) (at_ : Int) (hc : cmap_counted.f k t = some (at_, false, true)) (h4 : ¬ (t.size : Int) - 4 < at_) (h5 : ¬ at_ < 0) (ys : List S47) (hp : segsS (t.extract at_.toNat t.size) n [] = (true, ys)) (hlen : ¬ ys.length ≤ 4096) :
    Calls Try.prog 9 #[.string t, .int .i64 n] w fun e w' => ∃ v0_ : Value, e = .returned (.tuple #[v0_, .int .i64 110]) ∧ Kd.R k47 47 w' w.heap.size (fun _ => True) v0_ [] ∧ Below w.heap.size w w' := by
  have HB := Aside0.mk (Below.refl w.heap.size w)
  have d1 : decide (n < 1) = false := decide_eq_false h
  have d2 : decide (4096 < n) = false := decide_eq_false h2
  have FC := Aside0.mk hc
  have e4 : wrap64 ((t.size : Int) - 4) = (t.size : Int) - 4 := wrap64_small (by omega) (by omega)
  have d4 : decide (wrap64 ((t.size : Int) - 4) < at_) = false := by rw [e4]; exact decide_eq_false h4
  have d5 : (0 ≤ at_) = True := eq_true (by omega)
  have d6 : (at_ ≤ (t.size : Int)) = True := eq_true (by omega)
  have HXS : Aside0 ((t.extract at_.toNat t.size).size ≤ 9223372036854775807) := ⟨by have := extract_size t at_.toNat; omega⟩
  have HP := Aside0.mk hp
  have d7 : decide ((ys.length : Int) ≤ 4096) = false := decide_eq_false (by omega)
  have d7' : decide (ys.length ≤ 4096) = false := decide_eq_false hlen
  clear hlen
  clear h h2 hc h4 h5 e4 hs hp
  go_enter Try.func9, Try.ntmps9
  go_wp2_with (first | ((with_reducible refine gate_callee (f := 19) rfl ?_); refine goesL_ (some 20) rfl rfl Try.func19 (by kernel_rfl) rfl #[.string t] rfl (by (try simp only [List.map_toArray, List.map_cons, List.map_nil]); first | done | rfl) ?_; (with_reducible refine (cmap_counted.calls k t at_ false true _ FC.out).mono ?_); rintro e w' ⟨rfl, ⟨nd, rfl⟩⟩; refine ⟨_, rfl, ?_⟩) | (go_at_call 20; refine (spans_calls _).mono ?_; rintro e w1 ⟨g, rfl, hacc, hbel⟩; have HA := Aside0.mk (Acc.base (w0 := w) hacc rfl); have HB1 : Aside0 (Below w.heap.size w w1) := ⟨Below.trans (pw_below_drewN HB.out nd) (show Below w.heap.size (w.drewN nd) w1 from hbel)⟩; clear hacc hbel) | (go_at_call 22; refine (segs_calls w _ g (t.extract at_.toNat t.size) n [] HXS.out (Nat.zero_le _) (by first | exact HA.out | (repeat apply Acc.drewN); exact HA.out) (by repeat (first | (with_reducible first | exact HB1.out | apply pw_below_drewN) | exact HB1.out))).mono ?_; rintro e w2 ⟨rfl, hacc2, hbel2⟩; rw [HP.out] at hacc2; rw [HP.out]; have HA2 := Aside0.mk hacc2; have HB2 := Aside0.mk hbel2; clear hacc2 hbel2) | (go_at_call 36; refine (list_calls w _ g ys (by first | exact HA2.out | (repeat apply Acc.drewN); exact HA2.out) (by repeat (first | (with_reducible first | exact HB2.out | apply pw_below_drewN) | exact HB2.out))).mono ?_; rintro e w3 ⟨v, rfl, hv, hbel3⟩; obtain ⟨A3, c3, rfl⟩ := Kd.R_slice hv; have HV := Aside0.mk hv; have HB3 := Aside0.mk hbel3; clear hv hbel3))
  go_ret2
  exact ⟨_, rfl, by first | exact Kd.R_nil _ _ _ _ _ | exact Kd.N_nil _ _ _ _ _, by repeat (first | (with_reducible first | exact HB3.out | apply pw_below_drewN) | exact HB3.out)⟩

/-- the table's reader: what it comes to is what 'readF' says -/
theorem readF_calls (k : Nat) (t : ByteArray) (n : Int) (r1 : List S47) (r2 : Int) (w : World) (h : readF k t n = some (r1, r2)) :
    Calls Try.prog 9 #[.string t, .int .i64 n] w fun e w' => ∃ v0_ : Value, e = .returned (.tuple #[v0_, .int .i64 r2]) ∧ Kd.R k47 47 w' w.heap.size (fun _ => True) v0_ r1 ∧ Below w.heap.size w w' := by
  unfold readF at h
  by_cases hs : 9223372036854775807 < t.size
  · rw [if_pos hs] at h; exact absurd h (by simp)
  rw [if_neg hs] at h
  by_cases h1 : n < 1
  · rw [if_pos h1] at h
    simp only [Option.some.injEq, Prod.mk.injEq] at h; obtain ⟨rfl, rfl⟩ := h
    exact read_1 t n w h1
  rw [if_neg h1] at h
  by_cases h2 : 4096 < n
  · rw [if_pos h2] at h
    simp only [Option.some.injEq, Prod.mk.injEq] at h; obtain ⟨rfl, rfl⟩ := h
    exact read_2 t n w h1 h2
  rw [if_neg h2] at h
  obtain ⟨⟨at_, wide, ok⟩, hc, hr⟩ := Option.bind_eq_some_iff.mp h
  clear h
  unfold readOf at hr
  simp only at hr
  have hs' : t.size ≤ 9223372036854775807 := by omega
  by_cases h3 : ok = false
  · rw [if_pos h3] at hr
    subst h3
    simp only [Option.some.injEq, Prod.mk.injEq] at hr; obtain ⟨rfl, rfl⟩ := hr
    exact read_3 t n w h1 h2 hs' k at_ wide hc
  rw [if_neg h3] at hr
  have h3' : ok = true := by simpa using h3
  subst h3'
  by_cases h4 : (t.size : Int) - 4 < at_
  · rw [if_pos h4] at hr
    simp only [Option.some.injEq, Prod.mk.injEq] at hr; obtain ⟨rfl, rfl⟩ := hr
    exact read_4 t n w h1 h2 hs' k at_ wide hc h4
  rw [if_neg h4] at hr
  by_cases h5 : at_ < 0
  · rw [if_pos h5] at hr; exact absurd hr (by simp)
  rw [if_neg h5] at hr
  cases wide with
  | true =>
    have hm : mapS t n at_ true = groupsS (t.extract at_.toNat t.size) n [] := if_pos rfl
    rw [hm] at hr; clear hm
    generalize hp : groupsS (t.extract at_.toNat t.size) n [] = p at hr
    obtain ⟨b, ys⟩ := p
    unfold doneS at hr
    simp only at hr
    cases b with
    | false =>
      rw [if_neg (by simp)] at hr
      simp only [Option.some.injEq, Prod.mk.injEq] at hr; obtain ⟨rfl, rfl⟩ := hr
      exact read_groupsS_a t n w h1 h2 hs' k at_ hc h4 h5 ys hp
    | true =>
      by_cases h6 : ys.length ≤ 4096
      · rw [if_pos ⟨rfl, h6⟩] at hr
        simp only [Option.some.injEq, Prod.mk.injEq] at hr; obtain ⟨rfl, rfl⟩ := hr
        exact read_groupsS_b t n w h1 h2 hs' k at_ hc h4 h5 ys hp h6
      · rw [if_neg (fun hh => h6 hh.2)] at hr
        simp only [Option.some.injEq, Prod.mk.injEq] at hr; obtain ⟨rfl, rfl⟩ := hr
        exact read_groupsS_c t n w h1 h2 hs' k at_ hc h4 h5 ys hp h6
  | false =>
    have hm : mapS t n at_ false = segsS (t.extract at_.toNat t.size) n [] := if_neg (by decide)
    rw [hm] at hr; clear hm
    generalize hp : segsS (t.extract at_.toNat t.size) n [] = p at hr
    obtain ⟨b, ys⟩ := p
    unfold doneS at hr
    simp only at hr
    cases b with
    | false =>
      rw [if_neg (by simp)] at hr
      simp only [Option.some.injEq, Prod.mk.injEq] at hr; obtain ⟨rfl, rfl⟩ := hr
      exact read_segsS_a t n w h1 h2 hs' k at_ hc h4 h5 ys hp
    | true =>
      by_cases h6 : ys.length ≤ 4096
      · rw [if_pos ⟨rfl, h6⟩] at hr
        simp only [Option.some.injEq, Prod.mk.injEq] at hr; obtain ⟨rfl, rfl⟩ := hr
        exact read_segsS_b t n w h1 h2 hs' k at_ hc h4 h5 ys hp h6
      · rw [if_neg (fun hh => h6 hh.2)] at hr
        simp only [Option.some.injEq, Prod.mk.injEq] at hr; obtain ⟨rfl, rfl⟩ := hr
        exact read_segsS_c t n w h1 h2 hs' k at_ hc h4 h5 ys hp h6

end Go.Proofs.Ytldcgkkbmnahiaa.Px
