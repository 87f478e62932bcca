/- Rules for walking Go functions with memory told by tags (A11). -/
import Derived.Test.YtbeblgjibfoanaaA10
namespace Go.Proofs.Ytbeblgjibfoanaa.Am
set_option linter.unusedSimpArgs false
set_option linter.unusedVariables false
open Go Go.RowKit
/-! Slices, made. -/
def zer (i : Ty) (n : Nat) : List Value := (List.replicate n i.zero).flatten
theorem zer_length (i : Ty) (n : Nat) : (zer i n).length = n * i.zero.length := by
  simp [zer]
theorem zer_one {i : Ty} {z : Value} (h : i.zero = [z]) (n : Nat) : zer i n = List.replicate n z := by
  unfold zer
  rw [h]
  induction n with
  | zero => rfl
  | succ n ih => simp [List.replicate_succ, ih]
theorem flat_get (zs : List Value) : ∀ (m i : Nat), i < m * zs.length → ((List.replicate m zs).flatten)[i]? = zs[i % zs.length]?
  | 0, i, h => by simp at h
  | m + 1, i, h => by
    rw [List.replicate_succ, List.flatten_cons]
    by_cases hi : i < zs.length
    · rw [List.getElem?_append_left hi, Nat.mod_eq_of_lt hi]
    · rw [List.getElem?_append_right (by omega), flat_get zs m (i - zs.length) (by rw [Nat.add_mul] at h; omega), ← Nat.mod_eq_sub_mod (by omega)]
theorem range_zero (zs : Array Value) (m : Nat) (h : 0 < zs.size) : (Array.range (m * zs.size)).map (zs[· % zs.size]!) = ((List.replicate m zs.toList).flatten).toArray := by
  apply Array.ext'
  apply List.ext_getElem?
  intro i
  simp only [Array.toList_map, Array.toList_range, List.getElem?_map]
  by_cases hi : i < m * zs.size
  · have := flat_get zs.toList m i (by simpa using hi)
    simp only [Array.length_toList] at this
    rw [this, List.getElem?_range hi]
    have h2 : i % zs.size < zs.size := Nat.mod_lt _ h
    simp [h2]
  · rw [List.getElem?_eq_none (by simp; omega)]
    have : ((List.replicate m zs.toList).flatten).length ≤ i := by simp; omega
    rw [List.getElem?_eq_none this]; rfl
theorem range0 (f : Nat → Value) : (Array.range 0).map f = #[] := by
  apply Array.ext'
  simp only [Array.toList_map, Array.toList_range, List.range_zero, List.map_nil]
theorem zer_c {P : Program} {t : TypeId} {i : Ty} (ty : TyOk P t i) (ι : Nat → Nat) (n : Nat) : (zer i n).map (c1 ι) = zer i n := by
  unfold zer
  rw [List.map_flatten, List.map_replicate, ty.zero_plain]
theorem veqs_one : ∀ (us vs : List Value), veqs us vs = true → ∀ v ∈ vs, v.oneCell' = true ∧ plain1 v = true
  | [], [], _ => fun v h => by simp at h
  | [], _ :: _, h => by simp [veqs] at h
  | _ :: _, [], h => by simp [veqs] at h
  | u :: us, v :: vs, h => by
    simp only [veqs, Bool.and_eq_true] at h
    intro x hx
    rcases List.mem_cons.1 hx with rfl | hx
    · obtain ⟨h1, _⟩ := h
      cases u <;> cases x <;> first
        | exact ⟨rfl, rfl⟩
        | (simp [veq] at h1; done)
        | (rename_i a b; cases a <;> cases b <;> first | exact ⟨rfl, rfl⟩ | (simp [veq] at h1; done))
        | (rename_i a n c b m d; cases a <;> cases b <;> first | exact ⟨rfl, rfl⟩ | (simp [veq] at h1; done))
    · exact veqs_one us vs h.2 x hx
theorem TyOk.zero_one {P : Program} {t : TypeId} {i : Ty} (ty : TyOk P t i) : ∀ v ∈ i.zero, v.oneCell' = true ∧ plain1 v = true := by
  obtain ⟨inf, _, _, _, h4⟩ := ty.info
  unfold zeroB at h4
  cases hzz : inf.zero with
  | none => simp [hzz] at h4
  | some z' =>
    rw [hzz] at h4
    cases z' <;> simp only [Bool.and_eq_true] at h4 <;> first | exact veqs_one _ _ h4.2 | exact veqs_one _ _ h4.1.2
theorem zer_one' {P : Program} {t : TypeId} {i : Ty} (ty : TyOk P t i) (n : Nat) : ∀ v ∈ zer i n, v.oneCell' = true ∧ plain1 v = true := by
  intro v hv
  unfold zer at hv
  obtain ⟨l, hl, hv⟩ := List.mem_flatten.1 hv
  rw [(List.mem_replicate.1 hl).2] at hv
  exact ty.zero_one v hv
theorem zer_add (i : Ty) (n m : Nat) : zer i (n + m) = zer i n ++ zer i m := by
  unfold zer
  rw [← List.flatten_append, List.replicate_append_replicate]
section
variable {P : Program} {Θ : Tab} {N : Nat} {D : List Nat} {F : Mem} {K : Own} {L : Slots} {T : Mem → Slots → Own → Prop} (hT : tabOk P Θ = true)
include hT
theorem Go1.make {o : Oper} {ty el : TypeId} {l c : Operand} {d t : Nat} {ti tj : Ty} {kl kc : IntKind} {n m : Nat} {qn qm : Int} (ho : o.op = .makeSlice ty l c) (hd : o.dst = some d) (hN : d < N) (hi : Θ.lookup ty = some ti) (hk : ti.k = .slice el) (hj : Θ.lookup el = some tj)
    (hl : evO L l = some (.int kl qn)) (hc : evO L c = some (.int kc qm)) (hn : qn = n) (hm : qm = m) (hnm : n ≤ m) (hb : m * tj.bytes ≤ 281474976710656) (hm2 : m ≤ 9223372036854775807) (hz0 : tj.zero.length = tj.size) (hz1 : 0 < tj.size)
    (hL : ntL t L = true) (hK : ntK t K = true) (hD : D.contains t = false)
    (h : T F ((d, .slice (some ⟨t, 0, some 0⟩) n m) :: L) ((t, { elem := el, cs := zer tj n, room := m * tj.size, flat := true }) :: K)) : Go1 P N D F L K o T := by
  subst hn hm
  intro ι a w hF hS
  have tye := tab_ty hT hj
  obtain ⟨z, hz, hzl, _, _⟩ := tye.run_zero w
  have hzs : z.cells.size = tj.size := by rw [← hz0, ← hzl]; simp
  refine ⟨upd ι t w.heap.size, { w with heap := w.heap.push (.cells (zer tj m).toArray el) }, .slice (some ⟨w.heap.size, 0, none⟩) n m, F, _, _, .inl ?_, ?_, ?_, fun u hu => upd_ne ι (fun e => by subst e; simp at hD; exact hD hu), h⟩
  · obtain ⟨dst, op, type, pos, after, guard⟩ := o
    simp only at ho
    subst ho
    obtain ⟨dd, hdd, hkd⟩ := (tab_ty hT hi).und
    rw [hk] at hkd
    cases dd <;> try (simp [kindB] at hkd; done)
    simp only [kindB, beq_iff_eq] at hkd
    subst hkd
    obtain ⟨inf, h1, h2, h3⟩ := tye.run_info w
    have e1 : IntKind.i64.wrap (n : Int) = n := wrap_i64 (by omega) (by omega)
    have e2 : IntKind.i64.wrap (m : Int) = m := wrap_i64 (by omega) (by omega)
    have hbi : ¬ ((tj.bytes : Int) * (m : Int) > 281474976710656) := by
      have : ((m * tj.bytes : Nat) : Int) ≤ ((281474976710656 : Nat) : Int) := Int.ofNat_le.2 hb
      rw [Int.natCast_mul] at this
      rw [Int.mul_comm]; omega
    have hneg : ¬ ((m : Int) < 0) := by omega
    have hnn : ¬ ((n : Int) < 0) := by omega
    have hmn : ¬ ((n : Int) > (m : Int)) := by omega
    have hcells : ∀ zz : Array Value, zz = z.cells → (Array.range (m * tj.size)).map (zz[· % zz.size]!) = (zer tj m).toArray := by
      intro zz e
      subst e
      have := range_zero z.cells m (by omega)
      rw [hzs, hzl] at this
      rw [hzs]
      exact this
    have hp : (2 : Int) ^ 48 = 281474976710656 := by decide
    simp only [execOp, hF.ev hl, hF.ev hc, cV_int, Instr.makeSlice, Sem.run_bind, run_underlying hdd, Result.andThen_ok, asInt, asIntOf, Sem.run_pure, h1, h3, e1, e2, hp, hneg, hnn, hmn, hbi, decide_false, Bool.or_false, Bool.or_self, Bool.false_eq_true, if_false, run_askRoom, tye.run_size, Int.toNat_natCast]
    by_cases hm0 : m * tj.size = 0
    · have : m = 0 := by
        rcases Nat.mul_eq_zero.1 hm0 with h | h
        · exact h
        · omega
      subst this
      simp [zer, newRow, range0]
    · simp only [hm0, if_false, Sem.run_bind, hz, Result.andThen_ok, Sem.run_pure, newRow, run_newObj, hcells _ rfl]
  · have := (hF.nt (fun u hu => upd_ne ι (t := t) (b := w.heap.size) hu) hL).put hN (.slice (some ⟨t, 0, some 0⟩) n m)
    rw [hd]
    simpa [upd_eq] using this
  · refine hS.new hK rfl rfl rfl rfl ⟨zer tj (m - n), (0, 0), ?_, ?_, .inl rfl, ?_⟩ (fun _ v hv => (zer_one' tye n v hv).2)
    · rw [Array.getElem?_push, if_pos rfl]
      simp only [Row.c, zer_c tye]
      rw [← zer_add]
      congr 4
      omega
    · simp only [Row.c, List.length_map, zer_length, hz0]
      rw [← Nat.add_mul]
      congr 1
      omega
    · intro v hv
      simp only [Row.c, zer_c tye] at hv
      rw [← zer_add] at hv
      exact (zer_one' tye _ v hv).1
omit hT in
theorem fillL_length {place : Nat → Option (Nat × Nat)} : ∀ {ps : List (Nat × List Value)} {cells cs : List Value}, fillL place cells ps = some cs → cs.length = cells.length
  | [], cells, cs, h => by simp only [fillL, Option.some.injEq] at h; rw [h]
  | (i, vs) :: ps, cells, cs, h => by
    simp only [fillL] at h
    split at h <;> try (simp at h; done)
    split at h <;> try (simp at h; done)
    rw [fillL_length h, putL_length]
omit hT in
theorem fillL_mem {place : Nat → Option (Nat × Nat)} {p : Value → Prop} : ∀ {ps : List (Nat × List Value)} {cells cs : List Value}, (∀ v ∈ cells, p v) → (∀ q ∈ ps, ∀ v ∈ q.2, p v) → fillL place cells ps = some cs → ∀ v ∈ cs, p v
  | [], cells, cs, h1, _, h => by simp only [fillL, Option.some.injEq] at h; subst h; exact h1
  | (i, vs) :: ps, cells, cs, h1, h2, h => by
    simp only [fillL] at h
    split at h <;> try (simp at h; done)
    split at h <;> try (simp at h; done)
    refine fillL_mem (fun v hv => ?_) (fun q hq => h2 q (List.mem_cons_of_mem _ hq)) h
    rcases putL_mem _ _ _ _ hv with hv | hv
    · exact h1 v hv
    · exact h2 _ List.mem_cons_self v hv
theorem Go1.slit {o : Oper} {ty el : TypeId} {parts : Array (Nat × Operand)} {d t n : Nat} {ti tj : Ty} {ps : List (Nat × List Value)} {cs : List Value} (ho : o.op = .buildSlice ty n parts) (hd : o.dst = some d) (hN : d < N) (hi : Θ.lookup ty = some ti) (hk : ti.k = .slice el) (hj : Θ.lookup el = some tj)
    (hp : partsL (evO L) parts.toList = some ps) (h1 : ps.all (fun q => q.2.all (·.oneCell')) = true) (hf : fillL (fun i => some (i * tj.size, tj.size)) (zer tj n) ps = some cs) (hs : n * tj.size ≤ 16777216) (hz0 : tj.zero.length = tj.size) (hz1 : 0 < tj.size)
    (hL : ntL t L = true) (hK : ntK t K = true) (hD : D.contains t = false)
    (h : T F ((d, .slice (some ⟨t, 0, some 0⟩) n n) :: L) ((t, { elem := el, cs := cs, room := n * tj.size, flat := false }) :: K)) : Go1 P N D F L K o T := by
  intro ι a w hF hS
  have tye := tab_ty hT hj
  obtain ⟨z, hz, hzl, _, _⟩ := tye.run_zero w
  have hzs : z.cells.size = tj.size := by rw [← hz0, ← hzl]; simp
  have hone : ∀ v ∈ cs, v.oneCell' = true := fillL_mem (fun v hv => (zer_one' tye n v hv).1) (fun q hq v hv => List.all_eq_true.1 (List.all_eq_true.1 h1 q hq) v hv) hf
  have hlen := fillL_length hf
  rw [zer_length, hz0] at hlen
  -- the parts speak of no new tag
  have hpnt : ∀ q ∈ ps, q.2.all (nt1 t) = true := by
    have aux : ∀ (xs : List (Nat × Operand)) (ps : List (Nat × List Value)), partsL (evO L) xs = some ps → ∀ q ∈ ps, q.2.all (nt1 t) = true := by
      intro xs
      induction xs with
      | nil => intro ps hps q hq; simp only [partsL, Option.some.injEq] at hps; subst hps; simp at hq
      | cons x xs ih =>
        obtain ⟨k, y⟩ := x
        intro ps hps q hq
        simp only [partsL] at hps
        split at hps <;> try (simp at hps; done)
        rename_i v hv hnt
        split at hps <;> try (simp at hps; done)
        rename_i l hl
        simp only [Option.some.injEq] at hps
        subst hps
        rcases List.mem_cons.1 hq with rfl | hq
        · exact nt_cells (Fr.nt_ev hL hnt) (fun vs e => by subst e; exact hv vs rfl)
        · exact ih l hl q hq
    exact aux _ _ hp
  refine ⟨upd ι t w.heap.size, { w with heap := w.heap.push (.cells (cs.map (c1 ι)).toArray el) }, .slice (some ⟨w.heap.size, 0, none⟩) n n, F, _, _, .inl ?_, ?_, ?_, fun u hu => upd_ne ι (fun e => by subst e; simp at hD; exact hD hu), h⟩
  · obtain ⟨dst, op, type, pos, after, guard⟩ := o
    simp only at ho
    subst ho
    obtain ⟨dd, hdd, hkd⟩ := (tab_ty hT hi).und
    rw [hk] at hkd
    cases dd <;> try (simp [kindB] at hkd; done)
    simp only [kindB, beq_iff_eq] at hkd
    subst hkd
    obtain ⟨hl, hq⟩ := partsL_run (ρ := a.eval) (ι := ι) (fun x u hu => hF.ev hu) hp
    have hfill := fill_run (ι := ι) (fun k p hp => hp) (by simpa using hl) hq hf
    rw [zer_c tye] at hfill
    have hp24 : ¬ (n * tj.size > 2 ^ 24) := by have : (2 : Nat) ^ 24 = 16777216 := by decide
                                               omega
    have e1 : (parts.map fun (i, x) => (i, a.eval x)).toList = parts.toList.map fun (i, x) => (i, a.eval x) := by simp
    have hcells : ∀ zz : Array Value, zz = z.cells → (Array.range (n * tj.size)).map (zz[· % zz.size]!) = (zer tj n).toArray := by
      intro zz e
      subst e
      have := range_zero z.cells n (by omega)
      rw [hzs, hzl] at this
      rw [hzs]
      exact this
    simp only [execOp, Instr.buildSlice, Sem.run_bind, run_underlying hdd, Result.andThen_ok, tye.run_size, hp24, if_false, Sem.run_ite, Sem.run_pure]
    by_cases hm0 : n * tj.size = 0
    · have : n = 0 := by
        rcases Nat.mul_eq_zero.1 hm0 with h | h
        · exact h
        · omega
      subst this
      have e0 : (Array.range (0 * tj.size)).map (fun x => (#[] : Array Value)[x % (#[] : Array Value).size]!) = (zer tj 0).toArray := by
        rw [Nat.zero_mul, range0]; simp [zer]
      simp only [hm0, if_true, Result.andThen_ok, Sem.run_pure]
      have e0' : (Array.range 0).map (fun x => (#[] : Array Value)[x % (#[] : Array Value).size]!) = (zer tj 0).toArray := by
        simpa using e0
      rw [e0', e1, hfill]
      simp [newRow]
    · simp only [hm0, if_false, hz, Result.andThen_ok, hcells _ rfl]
      rw [e1, hfill]
      simp [newRow]
  · have := (hF.nt (fun u hu => upd_ne ι (t := t) (b := w.heap.size) hu) hL).put hN (.slice (some ⟨t, 0, some 0⟩) n n)
    rw [hd]
    simpa [upd_eq] using this
  · have hcn : cs.all (nt1 t) = true := by
      rw [List.all_eq_true]
      refine fillL_mem (fun v hv => ?_) (fun q hq v hv => List.all_eq_true.1 (hpnt q hq) v hv) hf
      exact nt1_plain t (zer_one' tye n v hv).2
    have hz' : cs.map (c1 (upd ι t w.heap.size)) = cs.map (c1 ι) := List.map_congr_left fun u hu => c1_nt (fun u hu => upd_ne ι hu) (List.all_eq_true.1 hcn u hu)
    refine hS.new hK rfl rfl rfl rfl ?_ (fun h => by cases h)
    refine holds_new _ ⟨rfl, by simp only [Row.c, hz'], by simp [Row.c, hlen], rfl⟩ rfl (fun u hu => by obtain ⟨u', hu', rfl⟩ := List.mem_map.1 hu; rw [c1_oneCell]; exact hone _ hu')
end
end Go.Proofs.Ytbeblgjibfoanaa.Am
