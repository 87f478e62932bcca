/- Rules for walking Go functions with memory told by tags (A14). -/
import Derived.Test.YtbeblgjibfoanaaA13
import Derived.Laws.BytesString
import Derived.Laws.BytesArg
namespace Go.Proofs.Ytbeblgjibfoanaa.Am
set_option linter.unusedSimpArgs false
set_option linter.unusedVariables false
open Go Go.RowKit
section
variable {P : Program} {Θ : Tab} {N : Nat} {D : List Nat} {F : Mem} {K : Own} {L : Slots} {T : Mem → Slots → Own → Prop} (hT : tabOk P Θ = true)
include hT
/-- copy into one of the call's own rows -/
theorem Go1.copy {o : Oper} {ty el : TypeId} {x y : Operand} {tys : List TypeId} {d : Nat} {t off n c m k : Nat} {xv : Value} {news : List Value} {r : Row} {ti tj : Ty} (ho : o.op = .call ⟨.builtin .copy, #[x, y], (ty :: tys).toArray⟩) (hd : o.dst = some d ∨ o.dst = none) (hN : d < N)
    (hi : Θ.lookup ty = some ti) (hk : ti.k = .slice el) (hj : Θ.lookup el = some tj) (hx : evO L x = some (.slice (some ⟨t, off, some 0⟩) n c)) (hy : evO L y = some xv) (hlen : ∀ ι w, (Builtin.lenOf (cV ι xv)).run P w = .ok m w) (hmin : min m n = k)
    (hnl : news.length = k * tj.size) (hn1 : ∀ v ∈ news, v.oneCell' = true) (hfc : ∀ ι w, St F ι K w → (Builtin.firstCells tj.size k (cV ι xv)).run P w = .ok (news.map (c1 ι)).toArray w)
    (hr : K.lookup t = some r) (hle : off + news.length ≤ r.cs.length)
    (h : T F (if o.dst = none then L else (d, .int .i64 k) :: L) (setK t { r with cs := putL r.cs off news, flat := r.flat && news.all plain1 } K)) : Go1 P N D F L K o T := by
  intro ι a w hF hS
  obtain ⟨_, hh, hfl⟩ := hS.own _ (lookup_mem hr)
  obtain ⟨junk, fr, hb, hl, hf, hone⟩ := hh
  simp only [Row.c] at hb hl hone hf
  obtain ⟨w', r1, r2, r3, r4, r5, r6, r7⟩ := run_storeCells_row (P := P) (ι t) off r.elem fr (news.map (c1 ι)) 0 (r.cs.map (c1 ι) ++ junk) w hb (by simp at hl ⊢; omega) (by
    rcases hf with hf | hf
    · exact .inl hf
    · right; have := hf.2; simp at hl ⊢; omega) (fun u hu => by obtain ⟨u', hu', rfl⟩ := List.mem_map.1 hu; rw [c1_oneCell]; exact hn1 _ hu')
  obtain ⟨dd, hdd, hkd⟩ := (tab_ty hT hi).und
  rw [hk] at hkd
  cases dd <;> try (simp [kindB] at hkd; done)
  simp only [kindB, beq_iff_eq] at hkd
  subst hkd
  have hrun : (execOp a.eval o).run P w = .ok (.value (.int .i64 k)) w' := by
    obtain ⟨dst, op, type, pos, after, guard⟩ := o
    simp only at ho
    subst ho
    have hfc' := hfc ι w hS
    rw [← hmin] at hfc'
    simp only [execOp, resolve, Sem.run_bind, Sem.run_pure, Result.andThen_ok, invoke, builtin, Builtin.copy_]
    have hmn : Nat.min m n = k := hmin
    rw [hmin] at hfc'
    simp [hF.ev hx, hF.ev hy, run_underlying hdd, hlen, (tab_ty hT hj).run_size, hmn, hfc', r1, goInt]
  refine ⟨ι, w', .int .i64 k, F, _, _, .inl hrun, ?_, ?_, fun _ _ => rfl, h⟩
  · rcases hd with hd | hd
    · rw [hd]; simp only [reduceCtorEq, if_false]; exact hF.put hN (.int .i64 k)
    · rw [hd]; simp only [if_true]; exact hF.putNone _
  · refine hS.set hr r3 r4 r5 r6 r7 ⟨junk, fr, ?_, ?_, ?_, ?_⟩ (fun hf2 u hu => ?_)
    · rw [r2]
      simp only [Row.c, Nat.add_zero]
      rw [putL_append _ _ _ _ (by simp; omega), putL_map]
    · simp only [Row.c, List.length_map, putL_length] at hl ⊢; exact hl
    · exact hf
    · intro u hu
      simp only [Row.c] at hu
      rcases List.mem_append.1 hu with hu | hu
      · obtain ⟨u', hu', rfl⟩ := List.mem_map.1 hu
        rw [c1_oneCell]
        rcases putL_mem _ _ _ _ hu' with hu' | hu'
        · have := hone (c1 ι u') (List.mem_append_left _ (List.mem_map.2 ⟨u', hu', rfl⟩))
          rwa [c1_oneCell] at this
        · exact hn1 _ hu'
      · exact hone u (List.mem_append_right _ hu)
    · simp only [Bool.and_eq_true] at hf2
      rcases putL_mem _ _ _ _ hu with hu | hu
      · exact hfl hf2.1 u hu
      · exact List.all_eq_true.1 hf2.2 u hu
/-- a text's bytes, in a row of their own -/
theorem Go1.bytes {o : Oper} {sty ty el : TypeId} {x : Operand} {d t : Nat} {s : ByteArray} {ts ti tj : Ty} (ho : o.op = .convert sty ty x) (hd : o.dst = some d) (hN : d < N) (hss : Θ.lookup sty = some ts) (hks : ts.k = .string) (hi : Θ.lookup ty = some ti) (hk : ti.k = .slice el) (hj : Θ.lookup el = some tj) (hkj : tj.k = .int .u8)
    (hx : evO L x = some (.string s)) (hs : s.size ≤ 9223372036854775807) (hL : ntL t L = true) (hK : ntK t K = true) (hD : D.contains t = false)
    (h : ∀ cap, s.size ≤ cap → cap ≤ 9223372036854775807 → T F ((d, .slice (some ⟨t, 0, some 0⟩) s.size cap) :: L) ((t, { elem := el, cs := bytesV s, room := cap, fz := true, flat := true }) :: K)) : Go1 P N D F L K o T := by
  intro ι a w hF hS
  obtain ⟨dd, hdd, hkd⟩ := (tab_ty hT hi).und
  rw [hk] at hkd
  cases dd <;> try (simp [kindB] at hkd; done)
  simp only [kindB, beq_iff_eq] at hkd
  subst hkd
  rename_i el
  obtain ⟨ds, hds, hks'⟩ := (tab_ty hT hss).und
  rw [hks] at hks'
  cases ds <;> try (simp [kindB] at hks'; done)
  obtain ⟨de, hde, hke⟩ := (tab_ty hT hj).und
  rw [hkj] at hke
  cases de <;> try (simp [kindB] at hke; done)
  simp only [kindB, beq_iff_eq] at hke
  subst hke
  have hc1 := grownCap_ge w s.size 0 el
  have hc2 : grownCap w s.size 0 el ≤ 9223372036854775807 := by
    have := grownCap_le_maxLen w s.size 0 el (by simp only [maxLen]; omega)
    simpa [maxLen] using this
  generalize hcap : grownCap w s.size 0 el = cap at *
  have hbl : (bytesV s).length = s.size := by simp [bytesV]
  have hsz : ((bytesV s ++ List.replicate (cap - s.size) (Value.int .u8 0)).toArray : Array Value).size = cap := by simp [hbl]; omega
  refine ⟨upd ι t w.heap.size, (w.drew.alloc (.cells (bytesV s ++ List.replicate (cap - s.size) (Value.int .u8 0)).toArray el)).freeze ⟨w.heap.size, cap, none⟩ 1, .slice (some ⟨w.heap.size, 0, none⟩) s.size cap, F, _, _, .inl ?_, ?_, ?_, fun u hu => upd_ne ι (fun e => by subst e; simp at hD; exact hD hu), h cap hc1 hc2⟩
  · obtain ⟨dst, op, type, pos, after, guard⟩ := o
    simp only at ho
    subst ho
    have e1 : (s.data.map fun b => Value.int .u8 b.toNat) ++ Array.replicate (cap - s.size) (Value.int .u8 0) = (bytesV s ++ List.replicate (cap - s.size) (Value.int .u8 0)).toArray := by
      apply Array.ext'; simp [bytesV]
    have hcap' : (Question.appendCap s.size 0 el).cut (w.tape w.drawn (Question.appendCap s.size 0 el)) = cap := hcap
    simp only [execOp, hF.ev hx, cV_string, convert, Sem.run_bind, run_underlying hds, run_underlying hdd, run_underlying hde, Result.andThen_ok, Conv.stringToBytes, run_choose, Question.forced, Bool.false_eq_true, if_false, hcap', e1, newRow, run_newObj, Sem.run_pure, markStringish, run_shape, World.shape?]
    simp [hsz]
    rfl
  · have := (hF.nt (fun u hu => upd_ne ι (t := t) (b := w.heap.size) hu) hL).put hN (.slice (some ⟨t, 0, some 0⟩) s.size cap)
    rw [hd]
    simpa [upd_eq] using this
  · have hnid : w.heap.size ∉ (K.map fun x => ι x.1) ++ F.ch.map Prod.fst := fun hm => by have := hS.lt_own _ hm; omega
    have hheap : ((w.drew.alloc (.cells (bytesV s ++ List.replicate (cap - s.size) (Value.int .u8 0)).toArray el)).freeze ⟨w.heap.size, cap, none⟩ 1).heap = w.heap.push (.cells (bytesV s ++ List.replicate (cap - s.size) (Value.int .u8 0)).toArray el (cap, cap + 1)) := by
      have hal : (w.drew.alloc (.cells (bytesV s ++ List.replicate (cap - s.size) (Value.int .u8 0)).toArray el)).heap = w.heap.push (.cells (bytesV s ++ List.replicate (cap - s.size) (Value.int .u8 0)).toArray el) := rfl
      simp only [World.freeze, Nat.one_ne_zero, if_false, hal]
      apply Array.ext_getElem?
      intro k
      rw [Array.getElem?_modify]
      by_cases hk : w.heap.size = k
      · subst hk
        simp
      · rw [if_neg hk, Array.getElem?_push, Array.getElem?_push]
        simp only [if_neg (Ne.symm hk)]
    refine hS.re (List.Sublist.refl _) hK hS.below.size hnid (by rw [hheap]; simp) (fun k hk _ => by rw [hheap, Array.getElem?_push, if_neg (by omega)]) rfl rfl rfl ⟨List.replicate (cap - s.size) (Value.int .u8 0), (cap, cap + 1), ?_, ?_, .inr ⟨rfl, Nat.le_refl _⟩, ?_⟩ (fun _ v hv => by obtain ⟨b, _, rfl⟩ := List.mem_map.1 hv; rfl)
    · rw [hheap, Array.getElem?_push, if_pos rfl]; simp only [Row.c, bytesV_plain]
    · simp only [Row.c, bytesV_plain, hbl]; simp; omega
    · intro v hv
      simp only [Row.c, bytesV_plain] at hv
      rcases List.mem_append.1 hv with hv | hv
      · obtain ⟨b, _, rfl⟩ := List.mem_map.1 hv; rfl
      · rw [(List.mem_replicate.1 hv).2]; rfl
/-- the text of a row of bytes -/
theorem SD.text {sty ty el : TypeId} {x : Operand} {n c : Nat} {a : Addr} {s : ByteArray} {ts ti tj : Ty} (hss : Θ.lookup ty = some ts) (hks : ts.k = .string) (hi : Θ.lookup sty = some ti) (hk : ti.k = .slice el) (hj : Θ.lookup el = some tj) (hkj : tj.k = .int .u8)
    (hx : evO L x = some (.slice (some a) n c)) (hr : rdN F K a n = some (bytesV s)) : SD P F K L (.convert sty ty x) (.string s) := by
  intro ι ρ he o' ho w hS
  obtain ⟨dst, op, type, pos, after, guard⟩ := o'
  simp only at ho
  subst ho
  obtain ⟨dd, hdd, hkd⟩ := (tab_ty hT hi).und
  rw [hk] at hkd
  cases dd <;> try (simp [kindB] at hkd; done)
  simp only [kindB, beq_iff_eq] at hkd
  subst hkd
  obtain ⟨ds, hds, hks'⟩ := (tab_ty hT hss).und
  rw [hks] at hks'
  cases ds <;> try (simp [kindB] at hks'; done)
  obtain ⟨de, hde, hke⟩ := (tab_ty hT hj).und
  rw [hkj] at hke
  cases de <;> try (simp [kindB] at hke; done)
  simp only [kindB, beq_iff_eq] at hke
  subst hke
  obtain ⟨h1, h2⟩ := hS.rdN hr
  have hl := run_loadCells_list (P := P) (w := w) (cA ι a) ((bytesV s).map (c1 ι)) h2
  rw [List.length_map, h1, bytesV_plain] at hl
  have e0 : bytesV s = (s.data.toList.map fun b => (b.toNat : Int)).map (Value.int .u8) := by simp [bytesV]
  rw [e0] at hl
  have e1 : (s.data.toList.map fun b => (b.toNat : Int)).map (fun n => UInt8.ofNat n.toNat) = s.data.toList := by
    rw [List.map_map]
    conv => rhs; rw [← List.map_id s.data.toList]
    exact List.map_congr_left fun b _ => by simp
  simp only [execOp, he _ _ hx, cV_slice, Sem.run_bind]
  rw [run_convert_bytes_string w _ _ _ _ _ _ hdd hde hds, run_bytesToString w _ n c _ hl, foldl_push_bytes]
  simp only [Result.andThen_ok, Sem.run_pure, cV_string, Result.ok.injEq, Next.value.injEq, Value.string.injEq, and_true]
  rw [e1]
  apply ByteArray.ext
  simp [ByteArray.empty, ByteArray.emptyWithCapacity]
  rfl
theorem SD.textNil {sty ty el : TypeId} {x : Operand} {n c : Nat} {ts ti tj : Ty} (hss : Θ.lookup ty = some ts) (hks : ts.k = .string) (hi : Θ.lookup sty = some ti) (hk : ti.k = .slice el) (hj : Θ.lookup el = some tj) (hkj : tj.k = .int .u8)
    (hx : evO L x = some (.slice none n c)) : SD P F K L (.convert sty ty x) (.string .empty) := by
  intro ι ρ he o' ho w hS
  obtain ⟨dst, op, type, pos, after, guard⟩ := o'
  simp only at ho
  subst ho
  obtain ⟨dd, hdd, hkd⟩ := (tab_ty hT hi).und
  rw [hk] at hkd
  cases dd <;> try (simp [kindB] at hkd; done)
  simp only [kindB, beq_iff_eq] at hkd
  subst hkd
  obtain ⟨ds, hds, hks'⟩ := (tab_ty hT hss).und
  rw [hks] at hks'
  cases ds <;> try (simp [kindB] at hks'; done)
  obtain ⟨de, hde, hke⟩ := (tab_ty hT hj).und
  rw [hkj] at hke
  cases de <;> try (simp [kindB] at hke; done)
  simp only [kindB, beq_iff_eq] at hke
  subst hke
  simp only [execOp, he _ _ hx, cV_nils, Sem.run_bind]
  rw [run_convert_bytes_string w _ _ _ _ _ _ hdd hde hds]
  simp [Conv.bytesToString]
end
end Go.Proofs.Ytbeblgjibfoanaa.Am
