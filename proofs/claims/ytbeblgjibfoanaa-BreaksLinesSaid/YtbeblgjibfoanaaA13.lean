/- Rules for walking Go functions with memory told by tags (A13). -/
import Derived.Test.YtbeblgjibfoanaaA12
namespace Go.Proofs.Ytbeblgjibfoanaa.Am
set_option linter.unusedSimpArgs false
set_option linter.unusedVariables false
open Go Go.RowKit
section
variable {P : Program} {Θ : Tab} {N : Nat} {D : List Nat} {F : Mem} {K : Own} {L : Slots} {T : Mem → Slots → Own → Prop} (hT : tabOk P Θ = true)
include hT
omit hT in
theorem zeroCells_zer {tj : Ty} (hz0 : tj.zero.length = tj.size) (hz1 : 0 < tj.size) {z : Value} (hz : z.cells.toList = tj.zero) (k : Nat) : Builtin.zeroCells z.cells k = (zer tj k).toArray := by
  have hs : z.cells.size = tj.size := by rw [← hz0, ← hz]; simp
  have := range_zero z.cells k (by omega)
  unfold Builtin.zeroCells zer
  rw [this, hz]
/-- append: the result has a tag of its own; the row it was made of is known no more -/
theorem Go1.append {o : Oper} {ty ty' el : TypeId} {s x : Operand} {d t n c m : Nat} {ti ti' tj : Ty} {sv xv : Value} {olds news : List Value} {K0 : Own} {fz fl : Bool} (ho : o.op = .call ⟨.builtin .append, #[s, x], #[ty, ty']⟩) (hd : o.dst = some d) (hN : d < N)
    (hi : Θ.lookup ty = some ti) (hk : ti.k = .slice el) (hi' : Θ.lookup ty' = some ti') (hk' : slB ti'.k = true) (hj : Θ.lookup el = some tj) (hz0 : tj.zero.length = tj.size) (hz1 : 0 < tj.size)
    (hs : evO L s = some sv) (hx : evO L x = some xv) (happ : App P F K tj.size xv m news) (hm : 0 < m)
    (hsrc : (sv = .slice none 0 0 ∧ n = 0 ∧ c = 0 ∧ olds = [] ∧ K0 = K) ∨ ∃ u r, sv = .slice (some ⟨u, 0, some 0⟩) n c ∧ K.lookup u = some r ∧ r.cs = olds ∧ r.room = c * tj.size ∧ r.elem = el ∧ n ≤ c ∧ c ≤ 9223372036854775807 ∧ K0 = delK u K ∧ (r.fz = true → fz = true) ∧ (fl = true → r.flat = true))
    (hol : olds.length = n * tj.size) (hflat : fl = true → news.all plain1 = true) (h63 : n + m ≤ 9223372036854775807) (hby : (n + m) * tj.bytes ≤ 140737488355328)
    (hL : ntL t L = true) (hK : ntK t K = true) (hnn : news.all (nt1 t) = true) (hD : D.contains t = false)
    (h : ∀ cap, n + m ≤ cap → cap ≤ 9223372036854775807 → T F ((d, .slice (some ⟨t, 0, some 0⟩) (n + m) cap) :: L) ((t, { elem := el, cs := olds ++ news, room := cap * tj.size, fz := fz, flat := fl }) :: K0)) : Go1 P N D F L K o T := by
  intro ι a w hF hS
  have tye := tab_ty hT hj
  obtain ⟨z, hzr, hzl, _, _⟩ := tye.run_zero w
  obtain ⟨dd, hdd, hkd⟩ := (tab_ty hT hi).und
  rw [hk] at hkd
  cases dd <;> try (simp [kindB] at hkd; done)
  simp only [kindB, beq_iff_eq] at hkd
  subst hkd
  rename_i el
  obtain ⟨d', hdd', hkd'⟩ := (tab_ty hT hi').und
  have hd' : ∀ k, d' ≠ .int k := by
    intro k e
    subst e
    cases hq : ti'.k <;> rw [hq] at hk' hkd' <;> first | (simp [slB] at hk'; done) | simp [kindB] at hkd'
  have hzu : ∀ w : World, (zeroValue el).run P w = .ok z w := by
    intro w2
    obtain ⟨inf, h1, _, _, _⟩ := tye.info
    have : inf.zero = some z := by
      have := hzr
      simp only [zeroValue, typeInfo, Sem.run_bind, run_program, Result.andThen_ok, h1, Sem.run_pure] at this
      cases hq : inf.zero <;> simp [hq] at this
      rw [this]
    simp [zeroValue, typeInfo, h1, this]
  obtain ⟨inf, hinf0, hinfs, hinfb, _⟩ := tye.info
  have hinf : ∀ w : World, (typeInfo el).run P w = .ok inf w := fun w => by simp [typeInfo, hinf0]
  have hlen := happ.lenOf ι w
  -- the call's operation, reduced
  have hop : ∀ (r : Value) (w' : World), (Builtin.append_ #[ty, ty'] o.type #[cV ι sv, cV ι xv]).run P w = .ok r w' → (execOp a.eval o).run P w = .ok (.value r) w' := by
    intro r w' hrun
    obtain ⟨dst, op, type, pos, after, guard⟩ := o
    simp only at ho hrun
    subst ho
    simp only [execOp, resolve, Sem.run_bind, Sem.run_pure, Result.andThen_ok, invoke, builtin]
    simp only [List.map_toArray, List.map_cons, List.map_nil, hF.ev hs, hF.ev hx, hrun, Result.andThen_ok, Sem.run_pure]
  have hplain : fl = true → (∀ v ∈ olds, plain1 v = true) → ∀ v ∈ olds ++ news, plain1 v = true := by
    intro hf ho v hv
    rcases List.mem_append.1 hv with hv | hv
    · exact ho v hv
    · exact List.all_eq_true.1 (hflat hf) v hv
  -- a new block
  have newcase : (c < n + m) → K0.Sublist K → (∀ v ∈ olds, v.oneCell' = true) → (fl = true → ∀ v ∈ olds, plain1 v = true) → (olds.all (nt1 t) = true) → (∀ w2, St F ι K w2 → (Builtin.firstCells tj.size n (cV ι sv)).run P w2 = .ok (olds.map (c1 ι)).toArray w2) → (∃ base, cV ι sv = .slice base n c) →
      ∃ (ι' : Nat → Nat) (w' : World) (v : Value) (F' : Mem) (L' : Slots) (K' : Own), ((execOp a.eval o).run P w = .ok (.value v) w' ∨ ((execOp a.eval o).run P w = .ok .skip w' ∧ v = undef)) ∧ Fr N ι' L' (a.put o.dst v) ∧ St F' ι' K' w' ∧ (∀ t ∈ D, ι' t = ι t) ∧ T F' L' K' := by
    intro hlt hsub hone hpl hnto hfirst hbase
    obtain ⟨base, hbase⟩ := hbase
    have hSd : St F ι K w.drew := hS.same rfl rfl rfl rfl
    have hfo := hfirst _ hSd
    rw [hbase] at hfo
    obtain ⟨cap, hc1, hc2, hrun⟩ := run_append_new (ty := o.type) (base := base) (xv := cV ι xv) hdd hdd' hd' (fun w => tye.run_size w) hinf hzu hlen hlt h63 (by rw [hinfb]; exact hby) hfo (happ.cells ι _ hSd)
    rw [← hbase] at hrun
    refine ⟨upd ι t w.heap.size, _, _, F, _, _, .inl (hop _ _ hrun), ?_, ?_, fun u hu => upd_ne ι (fun e => by subst e; simp at hD; exact hD hu), h cap hc1 hc2⟩
    · have := (hF.nt (fun u hu => upd_ne ι (t := t) (b := w.heap.size) hu) hL).put hN (.slice (some ⟨t, 0, some 0⟩) (n + m) cap)
      rw [hd]
      simpa [upd_eq] using this
    · have hnid : w.heap.size ∉ (K0.map fun x => ι x.1) ++ F.ch.map Prod.fst := by
        intro hm
        have : w.heap.size ∈ (K.map fun x => ι x.1) ++ F.ch.map Prod.fst := by
          rcases List.mem_append.1 hm with hm | hm
          · exact List.mem_append_left _ ((hsub.map _).subset hm)
          · exact List.mem_append_right _ hm
        have := hS.lt_own _ this
        omega
      have hcc : (olds ++ news).map (c1 (upd ι t w.heap.size)) = olds.map (c1 ι) ++ news.map (c1 ι) := by
        rw [List.map_append]
        congr 1
        · exact List.map_congr_left fun u hu => c1_nt (fun u hu => upd_ne ι hu) (List.all_eq_true.1 hnto u hu)
        · exact List.map_congr_left fun u hu => c1_nt (fun u hu => upd_ne ι hu) (List.all_eq_true.1 hnn u hu)
      refine hS.re hsub hK hS.below.size hnid (by simp) (fun k hk _ => Below.heap_alloc _ _ _ (by simpa using hk)) rfl rfl rfl ⟨zer tj (cap - (n + m)), (0, 0), ?_, ?_, .inl rfl, ?_⟩ (fun hf => hplain hf (hpl hf))
      · show (w.drew.heap.push _)[w.heap.size]? = _
        rw [Array.getElem?_push, if_pos (by simp)]
        simp only [Row.c, hcc, zeroCells_zer hz0 hz1 hzl]
        simp
      · simp only [Row.c, hcc, List.length_append, List.length_map, zer_length, hol, happ.len, hz0]
        rw [← Nat.add_mul, ← Nat.add_mul]
        congr 1
        omega
      · intro v hv
        simp only [Row.c, hcc] at hv
        rcases List.mem_append.1 hv with hv | hv
        · rcases List.mem_append.1 hv with hv | hv
          · obtain ⟨v', hv', rfl⟩ := List.mem_map.1 hv; rw [c1_oneCell]; exact hone _ hv'
          · obtain ⟨v', hv', rfl⟩ := List.mem_map.1 hv; rw [c1_oneCell]; exact happ.one _ hv'
        · exact (zer_one' tye _ v hv).1
  rcases hsrc with ⟨rfl, rfl, rfl, rfl, rfl⟩ | ⟨u, r, rfl, hr, rfl, hroom, hel, hnc, hcm, rfl, hfz, hfl⟩
  · exact newcase (by omega) (List.Sublist.refl _) (fun v hv => by simp at hv) (fun _ v hv => by simp at hv) (by simp) (fun w2 _ => by simp [Builtin.firstCells]) ⟨none, rfl⟩
  · obtain ⟨hB, hh, hflr⟩ := hS.own _ (lookup_mem hr)
    have hh' := hh
    obtain ⟨junk, fr, hb, hl, hf, hone⟩ := hh
    simp only [Row.c] at hb hl hone hf
    by_cases hle : n + m ≤ c
    · -- there is room
      have hjunk : (news.map (c1 ι)).length ≤ junk.length := by
        have h3 := happ.len
        simp only [List.length_map] at hl ⊢
        have h4 : (n + m) * tj.size ≤ c * tj.size := Nat.mul_le_mul_right _ hle
        rw [Nat.add_mul] at h4
        omega
      obtain ⟨w', r1, r2, r3, r4, r5, r6, r7⟩ := run_storeCells_row (P := P) (ι u) (n * tj.size) r.elem fr (news.map (c1 ι)) 0 (r.cs.map (c1 ι) ++ junk) w hb (by simp only [List.length_append, List.length_map] at hl hjunk ⊢; omega) (by
        rcases hf with hf | hf
        · exact .inl hf
        · right; have := hf.2; simp only [List.length_append, List.length_map] at hl ⊢; omega) (fun v hv => by obtain ⟨v', hv', rfl⟩ := List.mem_map.1 hv; rw [c1_oneCell]; exact happ.one _ hv')
      have hrun := run_append_in (ty := o.type) (a := ⟨ι u, 0, none⟩) (xv := cV ι xv) hdd hdd' hd' (tye.run_size w) hlen (happ.cells ι _ hS) hle (w' := w') (by rw [addA_none, Nat.zero_add]; exact r1)
      refine ⟨upd ι t (ι u), w', _, F, _, _, .inl (hop _ _ hrun), ?_, ?_, fun v hv => upd_ne ι (fun e => by subst e; simp at hD; exact hD hv), h c hle hcm⟩
      · have := (hF.nt (fun v hv => upd_ne ι (t := t) (b := ι u) hv) hL).put hN (.slice (some ⟨t, 0, some 0⟩) (n + m) c)
        rw [hd]
        simpa [upd_eq] using this
      · have hcc : (r.cs ++ news).map (c1 (upd ι t (ι u))) = r.cs.map (c1 ι) ++ news.map (c1 ι) := by
          rw [List.map_append]
          congr 1
          · have := (hS.rowc (b := ι u) hK (lookup_mem hr)).2
            simp only [Row.c, Row.mk.injEq] at this
            exact this.2.1
          · exact List.map_congr_left fun v hv => c1_nt (fun v hv => upd_ne ι hv) (List.all_eq_true.1 hnn v hv)
        refine hS.re List.filter_sublist hK hB (own_inj hS hr) (by omega) (fun k _ hk => r3 k hk) r5 r6 r7 ⟨junk.drop (news.map (c1 ι)).length, fr, ?_, ?_, ?_, ?_⟩ (fun hf => hplain hf (hflr (hfl hf)))
        · rw [r2]
          simp only [Row.c, hcc, Nat.add_zero]
          have := putL_end (news.map (c1 ι)) (r.cs.map (c1 ι)) junk hjunk
          rw [List.length_map, hol] at this
          rw [this, hel]
        · simp only [Row.c, hcc, List.length_append, List.length_drop, List.length_map] at hl hjunk ⊢
          omega
        · rcases hf with hf | hf
          · exact .inl hf
          · exact .inr ⟨hfz hf.1, by rw [← hroom]; exact hf.2⟩
        · intro v hv
          simp only [Row.c, hcc] at hv
          rcases List.mem_append.1 hv with hv | hv
          · rcases List.mem_append.1 hv with hv | hv
            · exact hone v (List.mem_append_left _ hv)
            · obtain ⟨v', hv', rfl⟩ := List.mem_map.1 hv; rw [c1_oneCell]; exact happ.one _ hv'
          · exact hone v (List.mem_append_right _ (List.mem_of_mem_drop hv))
    · -- there is none
      refine newcase (by omega) List.filter_sublist (fun v hv => ?_) (fun hf => hflr (hfl hf)) ?_ (fun w2 hS2 => ?_) ⟨_, rfl⟩
      · have := hone (c1 ι v) (List.mem_append_left _ (List.mem_map.2 ⟨v, hv, rfl⟩))
        rwa [c1_oneCell] at this
      · have := List.all_eq_true.1 hK _ (lookup_mem hr)
        simp only [Bool.and_eq_true, Bool.or_eq_true] at this
        rcases this.2 with hq | hq
        · rw [List.all_eq_true]
          intro v hv
          exact nt1_plain t (hflr hq v hv)
        · exact hq
      · have hrd : rdN F K ⟨u, 0, some 0⟩ (n * tj.size) = some r.cs := by
          simp only [rdN, hr, Nat.zero_add, hol, Nat.le_refl, if_true, List.drop_zero]
          rw [← hol, List.take_length]
        obtain ⟨h3, h4⟩ := hS2.rdN hrd
        have := run_loadCells_list (P := P) (w := w2) (cA ι ⟨u, 0, some 0⟩) (r.cs.map (c1 ι)) h4
        rw [List.length_map, h3] at this
        simp only [cV_slice, Builtin.firstCells, this]
end
end Go.Proofs.Ytbeblgjibfoanaa.Am
