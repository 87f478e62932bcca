/- the segments' ways that end early -/
import Derived.Test.YtldcgkkbmnahiaaTe
namespace Go.Proofs.Ytldcgkkbmnahiaa.Px
set_option linter.unusedSimpArgs false
set_option linter.unusedVariables false
open Go.RowKit Go.Proofs.YtldcgkkbmnahiaaW.PrintWords Go.Proofs.YtldcgkkbmnahiaaW.PrintLast Go.Proofs.YtldcgkkbmnahiaaW.PrintMore

theorem i64_and16 (x : Int) (h0 : 0 ≤ x) (h1 : x < 9223372036854775808) : Go.bits .and .i64 x 65535 = x % 65536 := bits_mask .i64 63 (by decide) wraps_i64 16 (by decide) x h0 (by omega)
/-- a segment's numbers -/
def sL (t : ByteArray) (i : Int) : Int := tw t (14 + i)
def sF (t : ByteArray) (m i : Int) : Int := tw t (16 + m + i)
def sD (t : ByteArray) (m i : Int) : Int := tw t (16 + 2 * m + i)
def sP (m i : Int) : Int := 16 + 3 * m + i
def sO (t : ByteArray) (m i : Int) : Int := tw t (sP m i)
/-- what shows a code; none: the segment is bad -/
def segG (t : ByteArray) (d fr dl pl off c : Int) : Option Int :=
  if off = 0 then some ((c + dl) % 65536)
  else if off % 2 ≠ 0 then none
  else if d < pl + off + 2 * (c - fr) + 2 then none
  else if tw t (pl + off + 2 * (c - fr)) = 0 then some 0
  else some ((tw t (pl + off + 2 * (c - fr)) + dl) % 65536)
def segRun (t : ByteArray) (n d fr dl pl off : Int) : Nat → Int → List S47 → Bool × List S47
  | 0, _, xs => (true, xs)
  | k + 1, c, xs =>
    if 55296 ≤ c ∧ c ≤ 57343 then segRun t n d fr dl pl off k (c + 1) xs
    else match segG t d fr dl pl off c with
      | none => (false, xs)
      | some g => if n ≤ g then (false, xs) else segRun t n d fr dl pl off k (c + 1) (takeS xs c g)
/-- what ends a segment's codes -/
def segE (l : Int) : Int := if l < 65535 then l + 1 else 65535
def segsL (t : ByteArray) (n d m : Int) : Nat → Int → Int → List S47 → Bool × List S47
  | 0, _, before, xs => (before == 65535, xs)
  | k + 1, i, before, xs =>
    if sF t m i ≤ before ∨ sL t i < sF t m i then (false, xs)
    else if (segRun t n d (sF t m i) (sD t m i) (sP m i) (sO t m i) (segE (sL t i) - sF t m i).toNat (sF t m i) xs).1 = true then
      segsL t n d m k (i + 2) (sL t i) (segRun t n d (sF t m i) (sD t m i) (sP m i) (sO t m i) (segE (sL t i) - sF t m i).toNat (sF t m i) xs).2
    else (false, (segRun t n d (sF t m i) (sD t m i) (sP m i) (sO t m i) (segE (sL t i) - sF t m i).toNat (sF t m i) xs).2)
def segsS (t : ByteArray) (n : Int) (xs : List S47) : Bool × List S47 :=
  if (t.size : Int) < 8 then (false, xs)
  else if tw t 0 ≠ 4 then (false, xs)
  else if tw t 6 < 2 then (false, xs)
  else if tw t 6 % 2 ≠ 0 then (false, xs)
  else if tw t 2 < 16 + 4 * tw t 6 then (false, xs)
  else if (t.size : Int) < tw t 2 then (false, xs)
  else segsL t n (tw t 2) (tw t 6) (tw t 6 / 2).toNat 0 (-1) xs
theorem segRun_len (t : ByteArray) (n d fr dl pl off : Int) : ∀ (k : Nat) (c : Int) (xs : List S47), (segRun t n d fr dl pl off k c xs).2.length ≤ xs.length + k := by
  intro k
  induction k with
  | zero => intro c xs; simp [segRun]
  | succ k ih =>
    intro c xs
    simp only [segRun]
    split
    · have := ih (c + 1) xs; omega
    · split
      · simp
      · split
        · simp
        · rename_i g _ _; have := ih (c + 1) (takeS xs c g); have := takeS_len xs c g; omega
theorem segRun_sur {t : ByteArray} {n d fr dl pl off c : Int} {k : Nat} {xs : List S47} (h : 55296 ≤ c ∧ c ≤ 57343) : segRun t n d fr dl pl off (k + 1) c xs = segRun t n d fr dl pl off k (c + 1) xs := by
  simp only [segRun]; rw [if_pos h]
theorem segRun_none {t : ByteArray} {n d fr dl pl off c : Int} {k : Nat} {xs : List S47} (h : ¬ (55296 ≤ c ∧ c ≤ 57343)) (hg : segG t d fr dl pl off c = none) : segRun t n d fr dl pl off (k + 1) c xs = (false, xs) := by
  simp only [segRun]; rw [if_neg h, hg]
theorem segRun_big {t : ByteArray} {n d fr dl pl off c g : Int} {k : Nat} {xs : List S47} (h : ¬ (55296 ≤ c ∧ c ≤ 57343)) (hg : segG t d fr dl pl off c = some g) (hn : n ≤ g) : segRun t n d fr dl pl off (k + 1) c xs = (false, xs) := by
  simp only [segRun]; rw [if_neg h, hg]; simp only [if_pos hn]
theorem segRun_take {t : ByteArray} {n d fr dl pl off c g : Int} {k : Nat} {xs : List S47} (h : ¬ (55296 ≤ c ∧ c ≤ 57343)) (hg : segG t d fr dl pl off c = some g) (hn : ¬ n ≤ g) : segRun t n d fr dl pl off (k + 1) c xs = segRun t n d fr dl pl off k (c + 1) (takeS xs c g) := by
  simp only [segRun]; rw [if_neg h, hg]; simp only [if_neg hn]
set_option maxHeartbeats 4000000 in
set_option maxRecDepth 100000 in
theorem segs_1 (w0 W : World) (g : Nat) (t : ByteArray) (n : Int) (xs : List S47) (v : Value) (hs : t.size ≤ 9223372036854775807) (hA : Acc w0 W g xs) (hB : Below w0.heap.size w0 W) (h : (t.size : Int) < 8) :
    Calls Try.prog 22 #[.string t, .int .i64 n, v] W fun e W' => e = .returned (.bool false) ∧ Acc w0 W' g xs ∧ Below w0.heap.size w0 W' := by
  have HA := Aside0.mk hA
  have HB := Aside0.mk hB
  have hd1 : decide ((t.size : Int) < 8) = true := decide_eq_true h
  clear h
  clear hA hB
  go_enter Try.func22, Try.ntmps22
  go_wp2_with (first | fail)
  go_ret
  exact ⟨rfl, by first | exact HA.out | (repeat apply Acc.drewN); exact HA.out, by repeat (first | (with_reducible first | exact HB.out | apply pw_below_drewN) | exact HB.out)⟩

set_option maxHeartbeats 4000000 in
set_option maxRecDepth 100000 in
theorem segs_2 (w0 W : World) (g : Nat) (t : ByteArray) (n : Int) (xs : List S47) (v : Value) (hs : t.size ≤ 9223372036854775807) (hA : Acc w0 W g xs) (hB : Below w0.heap.size w0 W) (h : ¬ (t.size : Int) < 8) (h2 : tw t 0 ≠ 4) :
    Calls Try.prog 22 #[.string t, .int .i64 n, v] W fun e W' => e = .returned (.bool false) ∧ Acc w0 W' g xs ∧ Below w0.heap.size w0 W' := by
  have HA := Aside0.mk hA
  have HB := Aside0.mk hB
  have F0 := Aside0.mk (two_f t 0 (by omega) (by omega) hs)
  have F2 := Aside0.mk (two_f t 2 (by omega) (by omega) hs)
  have F6 := Aside0.mk (two_f t 6 (by omega) (by omega) hs)
  have hbd0 := tw_bd t 0
  have hbd2 := tw_bd t 2
  have hbd6 := tw_bd t 6
  have hd1 : decide ((t.size : Int) < 8) = false := decide_eq_false h
  have hd2 : (tw t 0 == 4) = false := beq_eq_false_iff_ne.2 h2
  have hd2' : (tw t 0 != 4) = true := by simp only [bne, hd2, Bool.not_false]
  generalize tw t 0 = y0 at *
  generalize tw t 2 = d at *
  generalize tw t 6 = m at *
  clear hbd0 hbd2 hbd6
  clear h h2 hs
  clear hA hB
  go_enter Try.func22, Try.ntmps22
  go_wp2_with (first | (go_at_call 33; (with_reducible refine (cmap_two.calls t 0 _ _ F0.out).mono ?_); rintro e w' ⟨rfl, ⟨nd, rfl⟩⟩))
  go_ret
  exact ⟨rfl, by first | exact HA.out | (repeat apply Acc.drewN); exact HA.out, by repeat (first | (with_reducible first | exact HB.out | apply pw_below_drewN) | exact HB.out)⟩

set_option maxHeartbeats 4000000 in
set_option maxRecDepth 100000 in
theorem segs_3 (w0 W : World) (g : Nat) (t : ByteArray) (n : Int) (xs : List S47) (v : Value) (hs : t.size ≤ 9223372036854775807) (hA : Acc w0 W g xs) (hB : Below w0.heap.size w0 W) (h : ¬ (t.size : Int) < 8) (h2 : tw t 0 = 4) (h3 : tw t 6 < 2) :
    Calls Try.prog 22 #[.string t, .int .i64 n, v] W fun e W' => e = .returned (.bool false) ∧ Acc w0 W' g xs ∧ Below w0.heap.size w0 W' := by
  have HA := Aside0.mk hA
  have HB := Aside0.mk hB
  have F0 := Aside0.mk (two_f t 0 (by omega) (by omega) hs)
  have F2 := Aside0.mk (two_f t 2 (by omega) (by omega) hs)
  have F6 := Aside0.mk (two_f t 6 (by omega) (by omega) hs)
  have hbd0 := tw_bd t 0
  have hbd2 := tw_bd t 2
  have hbd6 := tw_bd t 6
  have hd1 : decide ((t.size : Int) < 8) = false := decide_eq_false h
  have hd2 : (tw t 0 == 4) = true := beq_iff_eq.2 h2
  have hd2' : (tw t 0 != 4) = false := by simp only [bne, hd2, Bool.not_true]
  have hd3 : decide (tw t 6 < 2) = true := decide_eq_true h3
  generalize tw t 0 = y0 at *
  generalize tw t 2 = d at *
  generalize tw t 6 = m at *
  clear hbd0 hbd2 hbd6
  clear h h2 h3 hs
  clear hA hB
  go_enter Try.func22, Try.ntmps22
  go_wp2_with (first | (go_at_call 33; (with_reducible refine (cmap_two.calls t 0 _ _ F0.out).mono ?_); rintro e w' ⟨rfl, ⟨nd, rfl⟩⟩) | ((with_reducible refine gate_callee (f := 33) rfl ?_); refine goesL_ (some 28) rfl rfl Try.func33 (by kernel_rfl) rfl #[.string t, .int .i64 2] rfl (by (try simp only [List.map_toArray, List.map_cons, List.map_nil]); first | done | rfl) ?_; (with_reducible refine (cmap_two.calls t 2 _ _ F2.out).mono ?_); rintro e w' ⟨rfl, ⟨nd, rfl⟩⟩; refine ⟨_, rfl, ?_⟩) | ((with_reducible refine gate_callee (f := 33) rfl ?_); refine goesL_ (some 30) rfl rfl Try.func33 (by kernel_rfl) rfl #[.string t, .int .i64 6] rfl (by (try simp only [List.map_toArray, List.map_cons, List.map_nil]); first | done | rfl) ?_; (with_reducible refine (cmap_two.calls t 6 _ _ F6.out).mono ?_); rintro e w' ⟨rfl, ⟨nd, rfl⟩⟩; refine ⟨_, rfl, ?_⟩))
  go_ret
  exact ⟨rfl, by first | exact HA.out | (repeat apply Acc.drewN); exact HA.out, by repeat (first | (with_reducible first | exact HB.out | apply pw_below_drewN) | exact HB.out)⟩

set_option maxHeartbeats 4000000 in
set_option maxRecDepth 100000 in
theorem segs_4 (w0 W : World) (g : Nat) (t : ByteArray) (n : Int) (xs : List S47) (v : Value) (hs : t.size ≤ 9223372036854775807) (hA : Acc w0 W g xs) (hB : Below w0.heap.size w0 W) (h : ¬ (t.size : Int) < 8) (h2 : tw t 0 = 4) (h3 : ¬ tw t 6 < 2) (h4 : tw t 6 % 2 ≠ 0) :
    Calls Try.prog 22 #[.string t, .int .i64 n, v] W fun e W' => e = .returned (.bool false) ∧ Acc w0 W' g xs ∧ Below w0.heap.size w0 W' := by
  have HA := Aside0.mk hA
  have HB := Aside0.mk hB
  have F0 := Aside0.mk (two_f t 0 (by omega) (by omega) hs)
  have F2 := Aside0.mk (two_f t 2 (by omega) (by omega) hs)
  have F6 := Aside0.mk (two_f t 6 (by omega) (by omega) hs)
  have hbd0 := tw_bd t 0
  have hbd2 := tw_bd t 2
  have hbd6 := tw_bd t 6
  have hd1 : decide ((t.size : Int) < 8) = false := decide_eq_false h
  have hd2 : (tw t 0 == 4) = true := beq_iff_eq.2 h2
  have hd2' : (tw t 0 != 4) = false := by simp only [bne, hd2, Bool.not_true]
  have hd3 : decide (tw t 6 < 2) = false := decide_eq_false h3
  have em : Int.tmod (tw t 6) 2 = tw t 6 % 2 := Int.tmod_eq_emod_of_nonneg (by omega)
  have hd4 : (Int.tmod (tw t 6) 2 == 0) = false := by rw [em]; exact beq_eq_false_iff_ne.2 h4
  have hd4' : (Int.tmod (tw t 6) 2 != 0) = true := by simp only [bne, hd4, Bool.not_false]
  generalize tw t 0 = y0 at *
  generalize tw t 2 = d at *
  generalize tw t 6 = m at *
  clear hbd0 hbd2 hbd6
  clear h h2 h3 h4 hs em
  clear hA hB
  go_enter Try.func22, Try.ntmps22
  go_wp2_with (first | (go_at_call 33; (with_reducible refine (cmap_two.calls t 0 _ _ F0.out).mono ?_); rintro e w' ⟨rfl, ⟨nd, rfl⟩⟩) | ((with_reducible refine gate_callee (f := 33) rfl ?_); refine goesL_ (some 28) rfl rfl Try.func33 (by kernel_rfl) rfl #[.string t, .int .i64 2] rfl (by (try simp only [List.map_toArray, List.map_cons, List.map_nil]); first | done | rfl) ?_; (with_reducible refine (cmap_two.calls t 2 _ _ F2.out).mono ?_); rintro e w' ⟨rfl, ⟨nd, rfl⟩⟩; refine ⟨_, rfl, ?_⟩) | ((with_reducible refine gate_callee (f := 33) rfl ?_); refine goesL_ (some 30) rfl rfl Try.func33 (by kernel_rfl) rfl #[.string t, .int .i64 6] rfl (by (try simp only [List.map_toArray, List.map_cons, List.map_nil]); first | done | rfl) ?_; (with_reducible refine (cmap_two.calls t 6 _ _ F6.out).mono ?_); rintro e w' ⟨rfl, ⟨nd, rfl⟩⟩; refine ⟨_, rfl, ?_⟩))
  go_ret
  exact ⟨rfl, by first | exact HA.out | (repeat apply Acc.drewN); exact HA.out, by repeat (first | (with_reducible first | exact HB.out | apply pw_below_drewN) | exact HB.out)⟩

set_option maxHeartbeats 4000000 in
set_option maxRecDepth 100000 in
theorem segs_5 (w0 W : World) (g : Nat) (t : ByteArray) (n : Int) (xs : List S47) (v : Value) (hs : t.size ≤ 9223372036854775807) (hA : Acc w0 W g xs) (hB : Below w0.heap.size w0 W) (h : ¬ (t.size : Int) < 8) (h2 : tw t 0 = 4) (h3 : ¬ tw t 6 < 2) (h4 : tw t 6 % 2 = 0) (h5 : tw t 2 < 16 + 4 * tw t 6) :
    Calls Try.prog 22 #[.string t, .int .i64 n, v] W fun e W' => e = .returned (.bool false) ∧ Acc w0 W' g xs ∧ Below w0.heap.size w0 W' := by
  have HA := Aside0.mk hA
  have HB := Aside0.mk hB
  have F0 := Aside0.mk (two_f t 0 (by omega) (by omega) hs)
  have F2 := Aside0.mk (two_f t 2 (by omega) (by omega) hs)
  have F6 := Aside0.mk (two_f t 6 (by omega) (by omega) hs)
  have hbd0 := tw_bd t 0
  have hbd2 := tw_bd t 2
  have hbd6 := tw_bd t 6
  have hd1 : decide ((t.size : Int) < 8) = false := decide_eq_false h
  have hd2 : (tw t 0 == 4) = true := beq_iff_eq.2 h2
  have hd2' : (tw t 0 != 4) = false := by simp only [bne, hd2, Bool.not_true]
  have hd3 : decide (tw t 6 < 2) = false := decide_eq_false h3
  have em : Int.tmod (tw t 6) 2 = tw t 6 % 2 := Int.tmod_eq_emod_of_nonneg (by omega)
  have hd4 : (Int.tmod (tw t 6) 2 == 0) = true := by rw [em]; exact beq_iff_eq.2 h4
  have hd4' : (Int.tmod (tw t 6) 2 != 0) = false := by simp only [bne, hd4, Bool.not_true]
  have e1 : wrap64 (16 + wrap64 (4 * tw t 6)) = 16 + 4 * tw t 6 := by rw [wrap64_small (x := 4 * tw t 6) (by omega) (by omega), wrap64_small (by omega) (by omega)]
  have hd5 : decide (tw t 2 < wrap64 (16 + wrap64 (4 * tw t 6))) = true := by rw [e1]; exact decide_eq_true h5
  generalize tw t 0 = y0 at *
  generalize tw t 2 = d at *
  generalize tw t 6 = m at *
  clear hbd0 hbd2 hbd6
  clear h h2 h3 h4 h5 hs em e1
  clear hA hB
  go_enter Try.func22, Try.ntmps22
  go_wp2_with (first | (go_at_call 33; (with_reducible refine (cmap_two.calls t 0 _ _ F0.out).mono ?_); rintro e w' ⟨rfl, ⟨nd, rfl⟩⟩) | ((with_reducible refine gate_callee (f := 33) rfl ?_); refine goesL_ (some 28) rfl rfl Try.func33 (by kernel_rfl) rfl #[.string t, .int .i64 2] rfl (by (try simp only [List.map_toArray, List.map_cons, List.map_nil]); first | done | rfl) ?_; (with_reducible refine (cmap_two.calls t 2 _ _ F2.out).mono ?_); rintro e w' ⟨rfl, ⟨nd, rfl⟩⟩; refine ⟨_, rfl, ?_⟩) | ((with_reducible refine gate_callee (f := 33) rfl ?_); refine goesL_ (some 30) rfl rfl Try.func33 (by kernel_rfl) rfl #[.string t, .int .i64 6] rfl (by (try simp only [List.map_toArray, List.map_cons, List.map_nil]); first | done | rfl) ?_; (with_reducible refine (cmap_two.calls t 6 _ _ F6.out).mono ?_); rintro e w' ⟨rfl, ⟨nd, rfl⟩⟩; refine ⟨_, rfl, ?_⟩))
  go_ret
  exact ⟨rfl, by first | exact HA.out | (repeat apply Acc.drewN); exact HA.out, by repeat (first | (with_reducible first | exact HB.out | apply pw_below_drewN) | exact HB.out)⟩

set_option maxHeartbeats 4000000 in
set_option maxRecDepth 100000 in
theorem segs_6 (w0 W : World) (g : Nat) (t : ByteArray) (n : Int) (xs : List S47) (v : Value) (hs : t.size ≤ 9223372036854775807) (hA : Acc w0 W g xs) (hB : Below w0.heap.size w0 W) (h : ¬ (t.size : Int) < 8) (h2 : tw t 0 = 4) (h3 : ¬ tw t 6 < 2) (h4 : tw t 6 % 2 = 0) (h5 : ¬ tw t 2 < 16 + 4 * tw t 6) (h6 : (t.size : Int) < tw t 2) :
    Calls Try.prog 22 #[.string t, .int .i64 n, v] W fun e W' => e = .returned (.bool false) ∧ Acc w0 W' g xs ∧ Below w0.heap.size w0 W' := by
  have HA := Aside0.mk hA
  have HB := Aside0.mk hB
  have F0 := Aside0.mk (two_f t 0 (by omega) (by omega) hs)
  have F2 := Aside0.mk (two_f t 2 (by omega) (by omega) hs)
  have F6 := Aside0.mk (two_f t 6 (by omega) (by omega) hs)
  have hbd0 := tw_bd t 0
  have hbd2 := tw_bd t 2
  have hbd6 := tw_bd t 6
  have hd1 : decide ((t.size : Int) < 8) = false := decide_eq_false h
  have hd2 : (tw t 0 == 4) = true := beq_iff_eq.2 h2
  have hd2' : (tw t 0 != 4) = false := by simp only [bne, hd2, Bool.not_true]
  have hd3 : decide (tw t 6 < 2) = false := decide_eq_false h3
  have em : Int.tmod (tw t 6) 2 = tw t 6 % 2 := Int.tmod_eq_emod_of_nonneg (by omega)
  have hd4 : (Int.tmod (tw t 6) 2 == 0) = true := by rw [em]; exact beq_iff_eq.2 h4
  have hd4' : (Int.tmod (tw t 6) 2 != 0) = false := by simp only [bne, hd4, Bool.not_true]
  have e1 : wrap64 (16 + wrap64 (4 * tw t 6)) = 16 + 4 * tw t 6 := by rw [wrap64_small (x := 4 * tw t 6) (by omega) (by omega), wrap64_small (by omega) (by omega)]
  have hd5 : decide (tw t 2 < wrap64 (16 + wrap64 (4 * tw t 6))) = false := by rw [e1]; exact decide_eq_false h5
  have hd6 : decide ((t.size : Int) < tw t 2) = true := decide_eq_true h6
  generalize tw t 0 = y0 at *
  generalize tw t 2 = d at *
  generalize tw t 6 = m at *
  clear hbd0 hbd2 hbd6
  clear h h2 h3 h4 h5 h6 hs em e1
  clear hA hB
  go_enter Try.func22, Try.ntmps22
  go_wp2_with (first | (go_at_call 33; (with_reducible refine (cmap_two.calls t 0 _ _ F0.out).mono ?_); rintro e w' ⟨rfl, ⟨nd, rfl⟩⟩) | ((with_reducible refine gate_callee (f := 33) rfl ?_); refine goesL_ (some 28) rfl rfl Try.func33 (by kernel_rfl) rfl #[.string t, .int .i64 2] rfl (by (try simp only [List.map_toArray, List.map_cons, List.map_nil]); first | done | rfl) ?_; (with_reducible refine (cmap_two.calls t 2 _ _ F2.out).mono ?_); rintro e w' ⟨rfl, ⟨nd, rfl⟩⟩; refine ⟨_, rfl, ?_⟩) | ((with_reducible refine gate_callee (f := 33) rfl ?_); refine goesL_ (some 30) rfl rfl Try.func33 (by kernel_rfl) rfl #[.string t, .int .i64 6] rfl (by (try simp only [List.map_toArray, List.map_cons, List.map_nil]); first | done | rfl) ?_; (with_reducible refine (cmap_two.calls t 6 _ _ F6.out).mono ?_); rintro e w' ⟨rfl, ⟨nd, rfl⟩⟩; refine ⟨_, rfl, ?_⟩))
  go_ret
  exact ⟨rfl, by first | exact HA.out | (repeat apply Acc.drewN); exact HA.out, by repeat (first | (with_reducible first | exact HB.out | apply pw_below_drewN) | exact HB.out)⟩

end Go.Proofs.Ytldcgkkbmnahiaa.Px
