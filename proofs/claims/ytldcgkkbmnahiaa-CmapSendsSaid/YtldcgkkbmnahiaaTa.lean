/- The closure of cmap.spans that takes one code after another: what it does to the list. No condition beyond what each lemma says. -/
import Derived.Test.YtldcgkkbmnahiaaPxx0
import Derived.OneCell
namespace Go.Proofs.Ytldcgkkbmnahiaa.Px
set_option linter.unusedSimpArgs false
set_option linter.unusedVariables false
open Go.RowKit Go.Proofs.YtldcgkkbmnahiaaW.PrintWords Go.Proofs.YtldcgkkbmnahiaaW.PrintLast Go.Proofs.YtldcgkkbmnahiaaW.PrintMore

/-- the last element -/
def lastT (xs : List S47) : S47 := rd_T47 xs ((xs.length : Int) - 1)
def takeS (xs : List S47) (c gl : Int) : List S47 :=
  if gl = 0 ∨ (55296 ≤ c ∧ c ≤ 57343) then xs
  else if 0 < xs.length ∧ wrap64 ((lastT xs).f1 + 1) = c ∧ wrap64 (wrap64 ((lastT xs).f2 + c) - (lastT xs).f0) = gl then xs.set ((xs.length : Int) - 1).toNat (⟨(lastT xs).f0, c, (lastT xs).f2⟩ : S47)
  else xs ++ [(⟨c, c, gl⟩ : S47)]
/-- the variable that the closures share: at block g, new since w0, a list of the call's own -/
def Acc (w0 W : World) (g : Nat) (xs : List S47) : Prop := ∃ v, W.heap[g]? = some (.cells #[v] 23 (0, 0)) ∧ w0.heap.size ≤ g ∧ Kd.R k47 47 W w0.heap.size (fun k_ => k_ ≠ g) v xs
theorem Acc.drewN {w0 W : World} {g : Nat} {xs : List S47} (h : Acc w0 W g xs) (n : Nat) : Acc w0 (W.drewN n) g xs := by
  obtain ⟨v, hv, hg, hR⟩ := h
  exact ⟨v, hv, hg, Kd.R_drewN hR n⟩
theorem Acc.drew {w0 W : World} {g : Nat} {xs : List S47} (h : Acc w0 W g xs) : Acc w0 W.drew g xs := by
  obtain ⟨v, hv, hg, hR⟩ := h
  exact ⟨v, hv, hg, Kd.R_drew hR⟩

set_option maxHeartbeats 4000000 in
set_option maxRecDepth 100000 in
theorem take_skip (w0 W : World) (g : Nat) (xs : List S47) (c gl : Int) (hA : Acc w0 W g xs) (hB : Below w0.heap.size w0 W) (h : gl = 0 ∨ (55296 ≤ c ∧ c ≤ 57343)) :
    Calls Try.prog 35 #[.int .i64 c, .int .i64 gl, .pointer (some ⟨g, 0, none⟩)] W fun e W' => e = .returned (.tuple #[]) ∧ Acc w0 W' g xs ∧ Below w0.heap.size w0 W' := by
  have HA := Aside0.mk hA
  have HB := Aside0.mk hB
  clear hA hB
  by_cases h0 : gl = 0
  · have hb : (gl == 0) = true := by simp [h0]
    clear h h0
    go_enter Try.func35, Try.ntmps35
    go_wp2
    first | go_end0 | ((try simp only [Exit.inBlock, Exit.then]); refine bodyPost_ret (results_none rfl _ _ _) rfl ?_)
    exact ⟨rfl, HA.out, HB.out⟩
  · have h1 : 55296 ≤ c := by omega
    have h2 : c ≤ 57343 := by omega
    have hb : (gl == 0) = false := by simp [h0]
    clear h h0
    go_enter Try.func35, Try.ntmps35
    go_wp2
    first | go_end0 | ((try simp only [Exit.inBlock, Exit.then]); refine bodyPost_ret (results_none rfl _ _ _) rfl ?_)
    exact ⟨rfl, HA.out, HB.out⟩

theorem Acc.stored {w0 w1 : World} {g : Nat} {v v1 : Value} {xs : List S47} (hv : w1.heap[g]? = some (.cells #[v] 23 (0, 0))) (hg : w0.heap.size ≤ g) (hR : Kd.R k47 47 w1 w0.heap.size (fun k_ => k_ ≠ g) v1 xs) : Acc w0 (w1.setCell ⟨g, 0, none⟩ v1) g xs :=
  ⟨v1, one_setCell hv, hg, Kd.R_far hR (fun k hk => hk) v1⟩

set_option maxHeartbeats 4000000 in
set_option maxRecDepth 100000 in
theorem take_first (w0 W : World) (g : Nat) (c gl : Int) (hA : Acc w0 W g []) (hB : Below w0.heap.size w0 W) (h0 : ¬ gl = 0) (h1 : ¬ (55296 ≤ c ∧ c ≤ 57343)) :
    Calls Try.prog 35 #[.int .i64 c, .int .i64 gl, .pointer (some ⟨g, 0, none⟩)] W fun e W' => e = .returned (.tuple #[]) ∧ Acc w0 W' g [(⟨c, c, gl⟩ : S47)] ∧ Below w0.heap.size w0 W' := by
  have HA := Aside0.mk hA
  have HB := Aside0.mk hB
  clear hA hB
  obtain ⟨v, hv, hg, hR⟩ := HA.out
  clear HA
  obtain ⟨A, cap, rfl⟩ := Kd.R_slice hR
  have HV := Aside0.mk hv
  have HG := Aside0.mk hg
  have HO := Aside0.mk hR
  have hcell : W.cell? ⟨g, 0, none⟩ = some (.slice A 0 cap) := (blk_cell HV.out 0).trans rfl
  have hfz := blk_frozen HV.out 0
  have hb : (gl == 0) = false := by simp [h0]
  have hlow : decide (55296 ≤ c) = true ∧ decide (c ≤ 57343) = false ∨ decide (55296 ≤ c) = false := by
    by_cases h2 : 55296 ≤ c
    · left; simp; omega
    · right; simp; omega
  clear hv hg hR h0 h1
  rcases hlow with ⟨ha, hb2⟩ | ha
  all_goals
    go_enter Try.func35, Try.ntmps35
    go_wp2
    go_quiet (fail)
    go_wp2_with (first | ((with_reducible refine gate_builtin (b := .append) (xs := #[.tmp 53, .tmp 58]) rfl ?_); at_builtin; refine Kd.R_append k47 (w0 := w0) w0.heap.size rfl (.tmp 53) (.tmp 58) 23 47 (.agg #[(.int .i64 0), (.int .i64 0), (.int .i64 0)]) 24 rfl Try.underlying23 info47 rfl (by decide) (by omega) (.slice A 0 cap) [] (⟨c, c, gl⟩ : S47) [.int .i64 c, .int .i64 c, .int .i64 gl] (fun k_ => k_ ≠ g) (fun _ => False) rfl rfl ?aP (fun _ hk => hk.elim) ?aF ?aO ?aB ?aS ?aL ?_; (case aP => exact k47_mkM _ _ _ (⟨c, c, gl⟩ : S47)); (case aB => exact (by repeat (first | (with_reducible first | exact HB.out | apply below_alloc | apply pw_below_drewN | apply below_drew1) | exact HB.out))); (case aF => exact fun k_ hk => Nat.ne_of_gt (Nat.lt_of_lt_of_le (blk_lt HV.out) hk)); (case aO => exact (by (with_reducible repeat (first | apply Kd.R_alloc | apply Kd.R_drewN | apply Kd.R_drew)); exact HO.out)); (case aS => exact HB.out.size); (case aL => simp); intro v1 w1 ho hb1 hgr hat; obtain ⟨A1, cap1, rfl⟩ := Kd.R_slice ho; have hv1 := blk_grown (by exact HV.out) hgr (fun e_ => HO.out.1 g e_.symm rfl); have hc1 : w1.cell? ⟨g, 0, none⟩ = some (.slice A 0 cap) := (blk_cell hv1 0).trans rfl; have hf1 := blk_frozen hv1 0; have HO1 := Aside0.mk ho; have HB1 := Aside0.mk hb1; have HV1 := Aside0.mk hv1; clear ho hb1 hgr hat hv1))
    first | go_end0 | ((try simp only [Exit.inBlock, Exit.then]); refine bodyPost_ret (results_none rfl _ _ _) rfl ?_)
    exact ⟨rfl, Acc.stored HV1.out HG.out HO1.out, below_set HB1.out HG.out⟩

set_option maxHeartbeats 8000000 in
set_option maxRecDepth 100000 in
theorem take_more (w0 W : World) (g : Nat) (xs : List S47) (k : Nat) (hk : xs.length = k + 1) (hlim : k + 1 < 5864062014805) (c gl : Int) (hA : Acc w0 W g xs) (hB : Below w0.heap.size w0 W) (h0 : ¬ gl = 0) (h1 : ¬ (55296 ≤ c ∧ c ≤ 57343))
    (h2 : ¬ (wrap64 ((rd_T47 xs k).f1 + 1) = c ∧ wrap64 (wrap64 ((rd_T47 xs k).f2 + c) - (rd_T47 xs k).f0) = gl)) :
    Calls Try.prog 35 #[.int .i64 c, .int .i64 gl, .pointer (some ⟨g, 0, none⟩)] W fun e W' => e = .returned (.tuple #[]) ∧ Acc w0 W' g (xs ++ [(⟨c, c, gl⟩ : S47)]) ∧ Below w0.heap.size w0 W' := by
  have HA := Aside0.mk hA
  have HB := Aside0.mk hB
  clear hA hB
  obtain ⟨v, hv, hg, hR⟩ := HA.out
  clear HA
  obtain ⟨g2, cap, rfl, hb2, hlt2, _⟩ := Kd.R_form hR (by omega)
  obtain ⟨ce, hcl, hM, hcc, hfr⟩ := Kd.R_elem hR z47 (k : Int) (by omega) (by omega)
  obtain rfl := k47_openM hM
  have HV := Aside0.mk hv
  have HG := Aside0.mk hg
  have HO := Aside0.mk hR
  have HK := Aside0.mk hk
  have HL := Aside0.mk hlim
  have HCO := Aside0.mk (show ∀ w1 : World, w1.heap[g]? = some (.cells #[.slice (some ⟨g2, 0, none⟩) xs.length cap] 23 (0, 0)) → w1.cell? ⟨g, 0, none⟩ = some (.slice (some ⟨g2, 0, none⟩) (k + 1) cap) from fun w1 h => by rw [← HK.out]; exact (blk_cell h 0).trans rfl)
  have hcell := HCO.out _ HV.out
  have hfz := blk_frozen HV.out 0
  have hx0 : W.cell? ⟨g2, k * 3, none⟩ = some (.int .i64 (rd_T47 xs k).f0) := hcc 0 _ rfl
  have hx1 : W.cell? ⟨g2, k * 3 + 1, none⟩ = some (.int .i64 (rd_T47 xs k).f1) := hcc 1 _ rfl
  have hx2 : W.cell? ⟨g2, k * 3 + 2, none⟩ = some (.int .i64 (rd_T47 xs k).f2) := hcc 2 _ rfl
  have hkm : (k : Int) + 1 ≤ 9223372036854775807 := by omega
  have hk0 : (0 : Int) ≤ (k : Int) := by omega
  have hk1 : (k : Int) < (k : Int) + 1 := by omega
  have hb : (gl == 0) = false := by simp [h0]
  have hlow : decide (55296 ≤ c) = true ∧ decide (c ≤ 57343) = false ∨ decide (55296 ≤ c) = false := by
    by_cases h2 : 55296 ≤ c
    · left; simp; omega
    · right; simp; omega
  have hmis : (wrap64 ((rd_T47 xs k).f1 + 1) == c) = true ∧ (wrap64 (wrap64 ((rd_T47 xs k).f2 + c) - (rd_T47 xs k).f0) == gl) = false ∨ (wrap64 ((rd_T47 xs k).f1 + 1) == c) = false := by
    by_cases h3 : wrap64 ((rd_T47 xs k).f1 + 1) = c
    · left; simp only [beq_iff_eq, beq_eq_false_iff_ne, ne_eq]; exact ⟨h3, fun h4 => h2 ⟨h3, h4⟩⟩
    · right; simp only [beq_eq_false_iff_ne, ne_eq]; exact h3
  clear hv hg hR h0 h1 h2 hcc hfr hM hcl hk hlim hb2 hlt2
  generalize hL : rd_T47 xs k = L at *
  clear hL
  rcases hlow with ⟨ha, hb2⟩ | ha <;> rcases hmis with ⟨hm1, hm2⟩ | hm1
  all_goals
    go_enter Try.func35, Try.ntmps35
    go_wp2
    go_quiet (fail)
    go_wp2_with (first | ((with_reducible refine gate_builtin (b := .append) (xs := #[.tmp 53, .tmp 58]) rfl ?_); at_builtin; refine Kd.R_append k47 (w0 := w0) w0.heap.size rfl (.tmp 53) (.tmp 58) 23 47 (.agg #[(.int .i64 0), (.int .i64 0), (.int .i64 0)]) 24 rfl Try.underlying23 info47 rfl (by decide) (by omega) (.slice (some ⟨g2, 0, none⟩) (k + 1) cap) xs (⟨c, c, gl⟩ : S47) [.int .i64 c, .int .i64 c, .int .i64 gl] (fun k_ => k_ ≠ g) (fun _ => False) rfl rfl ?aP (fun _ hk => hk.elim) ?aF ?aO ?aB ?aS ?aL ?_; (case aP => exact k47_mkM _ _ _ (⟨c, c, gl⟩ : S47)); (case aB => exact (by repeat (first | (with_reducible first | exact HB.out | apply below_alloc | apply pw_below_drewN | apply below_drew1) | exact HB.out))); (case aF => exact fun k_ hk => Nat.ne_of_gt (Nat.lt_of_lt_of_le (blk_lt HV.out) hk)); (case aO => exact (by (with_reducible repeat (first | apply Kd.R_alloc | apply Kd.R_drewN | apply Kd.R_drew)); rw [← HK.out]; exact HO.out)); (case aS => exact HB.out.size); (case aL => have := HL.out; rw [HK.out]; omega); intro v1 w1 ho hb1 hgr hat; obtain ⟨A1, cap1, rfl⟩ := Kd.R_slice ho; have hv1 := blk_grown (by exact HV.out) hgr (fun e_ => HO.out.1 g e_.symm rfl); have hc1 := HCO.out _ hv1; have hf1 := blk_frozen hv1 0; have HO1 := Aside0.mk ho; have HB1 := Aside0.mk hb1; have HV1 := Aside0.mk hv1; clear ho hb1 hgr hat hv1))
    first | go_end0 | ((try simp only [Exit.inBlock, Exit.then]); refine bodyPost_ret (results_none rfl _ _ _) rfl ?_)
    exact ⟨rfl, Acc.stored HV1.out HG.out (by have h_ := HO1.out; rw [List.length_append, List.length_singleton] at h_; exact h_), below_set HB1.out HG.out⟩

set_option maxHeartbeats 8000000 in
set_option maxRecDepth 100000 in
theorem take_last (w0 W : World) (g : Nat) (xs : List S47) (k : Nat) (hk : xs.length = k + 1) (hlim : k + 1 < 5864062014805) (c gl : Int) (hA : Acc w0 W g xs) (hB : Below w0.heap.size w0 W) (h0 : ¬ gl = 0) (h1 : ¬ (55296 ≤ c ∧ c ≤ 57343))
    (h2 : wrap64 ((rd_T47 xs k).f1 + 1) = c ∧ wrap64 (wrap64 ((rd_T47 xs k).f2 + c) - (rd_T47 xs k).f0) = gl) :
    Calls Try.prog 35 #[.int .i64 c, .int .i64 gl, .pointer (some ⟨g, 0, none⟩)] W fun e W' => e = .returned (.tuple #[]) ∧ Acc w0 W' g (xs.set k (⟨(rd_T47 xs k).f0, c, (rd_T47 xs k).f2⟩ : S47)) ∧ Below w0.heap.size w0 W' := by
  have HA := Aside0.mk hA
  have HB := Aside0.mk hB
  clear hA hB
  obtain ⟨v, hv, hg, hR⟩ := HA.out
  clear HA
  obtain ⟨g2, cap, rfl, hb2, hlt2, _⟩ := Kd.R_form hR (by omega)
  obtain ⟨ce, hcl, hM, hcc, hfr⟩ := Kd.R_elem hR z47 (k : Int) (by omega) (by omega)
  obtain rfl := k47_openM hM
  have HP := Aside0.mk (show ∀ n : Nat, Kd.R k47 47 ((W.drewN n).setCells g2 ((k : Int).toNat * 3 + 1) [.int .i64 c]) w0.heap.size (fun k_ => k_ ≠ g) (.slice (some ⟨g2, 0, none⟩) xs.length cap) (xs.set (k : Int).toNat (⟨(rd_T47 xs k).f0, c, (rd_T47 xs k).f2⟩ : S47)) from fun n => (Kd.R_seg (okp := fun _ => False) (Kd.R_drewN hR n) (k : Int) (by omega) (by omega) (seg := [.int .i64 c]) (j := 1) hcl hcc (show 2 ≤ 3 from by decide) (x' := (⟨(rd_T47 xs k).f0, c, (rd_T47 xs k).f2⟩ : S47)) (k47_mkM _ _ _ (⟨(rd_T47 xs k).f0, c, (rd_T47 xs k).f2⟩ : S47)) (fun _ hk => hk.elim)).1)
  have HNE : Aside0 (g ≠ g2) := ⟨fun e_ => hR.1 g2 rfl e_.symm⟩
  have HV := Aside0.mk hv
  have HG := Aside0.mk hg
  have HO := Aside0.mk hR
  have HK := Aside0.mk hk
  have HG2 := Aside0.mk hb2
  have HCO := Aside0.mk (show ∀ w1 : World, w1.heap[g]? = some (.cells #[.slice (some ⟨g2, 0, none⟩) xs.length cap] 23 (0, 0)) → w1.cell? ⟨g, 0, none⟩ = some (.slice (some ⟨g2, 0, none⟩) (k + 1) cap) from fun w1 h => by rw [← HK.out]; exact (blk_cell h 0).trans rfl)
  have hcell := HCO.out _ HV.out
  have hx0 : W.cell? ⟨g2, k * 3, none⟩ = some (.int .i64 (rd_T47 xs k).f0) := hcc 0 _ rfl
  have hx1 : W.cell? ⟨g2, k * 3 + 1, none⟩ = some (.int .i64 (rd_T47 xs k).f1) := hcc 1 _ rfl
  have hx2 : W.cell? ⟨g2, k * 3 + 2, none⟩ = some (.int .i64 (rd_T47 xs k).f2) := hcc 2 _ rfl
  have hf1 : W.frozen? ⟨g2, k * 3 + 1, none⟩ = false := hfr 1
  have hkm : (k : Int) + 1 ≤ 9223372036854775807 := by omega
  have hk0 : (0 : Int) ≤ (k : Int) := by omega
  have hk1 : (k : Int) < (k : Int) + 1 := by omega
  have hb : (gl == 0) = false := by simp [h0]
  have hlow : decide (55296 ≤ c) = true ∧ decide (c ≤ 57343) = false ∨ decide (55296 ≤ c) = false := by
    by_cases h2 : 55296 ≤ c
    · left; simp; omega
    · right; simp; omega
  have hm1 : (wrap64 ((rd_T47 xs k).f1 + 1) == c) = true := by simp only [beq_iff_eq]; exact h2.1
  have hm2 : (wrap64 (wrap64 ((rd_T47 xs k).f2 + c) - (rd_T47 xs k).f0) == gl) = true := by simp only [beq_iff_eq]; exact h2.2
  clear hv hg hR h0 h1 h2 hcc hfr hM hcl hk hlim hb2 hlt2
  generalize hL : rd_T47 xs k = L at *
  clear hL
  rcases hlow with ⟨ha, hb2⟩ | ha
  all_goals
    go_enter Try.func35, Try.ntmps35
    go_wp2
    go_quiet (fail)
    go_wp2
    first | go_end0 | ((try simp only [Exit.inBlock, Exit.then]); refine bodyPost_ret (results_none rfl _ _ _) rfl ?_)
    exact ⟨rfl, ⟨_, (Below.heap_setCell _ _ _ g HNE.out).trans HV.out, HG.out, HP.out _⟩, below_set (by first | exact HB.out | (apply pw_below_drewN; exact HB.out)) HG2.out⟩

theorem lastT_succ {xs : List S47} {k : Nat} (hk : xs.length = k + 1) : lastT xs = rd_T47 xs (k : Int) := by
  unfold lastT; rw [hk]; congr 1; omega
/-- the closure that takes one code after another -/
theorem take_calls (w0 W : World) (g : Nat) (xs : List S47) (hlim : xs.length < 5864062014805) (c gl : Int) (hA : Acc w0 W g xs) (hB : Below w0.heap.size w0 W) :
    Calls Try.prog 35 #[.int .i64 c, .int .i64 gl, .pointer (some ⟨g, 0, none⟩)] W fun e W' => e = .returned (.tuple #[]) ∧ Acc w0 W' g (takeS xs c gl) ∧ Below w0.heap.size w0 W' := by
  unfold takeS
  by_cases h : gl = 0 ∨ (55296 ≤ c ∧ c ≤ 57343)
  · rw [if_pos h]; exact take_skip w0 W g xs c gl hA hB h
  · rw [if_neg h]
    have h0 : ¬ gl = 0 := fun e => h (.inl e)
    have h1 : ¬ (55296 ≤ c ∧ c ≤ 57343) := fun e => h (.inr e)
    cases hx : xs.length with
    | zero =>
      rw [if_neg (by omega)]
      obtain rfl := List.eq_nil_of_length_eq_zero hx
      exact take_first w0 W g c gl hA hB h0 h1
    | succ k =>
      rw [lastT_succ hx]
      by_cases h2 : wrap64 ((rd_T47 xs k).f1 + 1) = c ∧ wrap64 (wrap64 ((rd_T47 xs k).f2 + c) - (rd_T47 xs k).f0) = gl
      · rw [if_pos ⟨by omega, h2⟩]
        have := take_last w0 W g xs k hx (by omega) c gl hA hB h0 h1 h2
        rw [show (((k + 1 : Nat) : Int) - 1).toNat = k from by omega]
        exact this
      · rw [if_neg (fun hh => h2 hh.2)]
        exact take_more w0 W g xs k hx (by omega) c gl hA hB h0 h1 h2

end Go.Proofs.Ytldcgkkbmnahiaa.Px
