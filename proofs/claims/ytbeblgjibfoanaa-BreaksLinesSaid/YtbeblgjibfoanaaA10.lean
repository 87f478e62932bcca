/- Rules for walking Go functions with memory told by tags (A10). -/
import Derived.Test.YtbeblgjibfoanaaA9
import Derived.Laws.Append
namespace Go.Proofs.Ytbeblgjibfoanaa.Am
set_option linter.unusedSimpArgs false
set_option linter.unusedVariables false
open Go Go.RowKit
/-! Stores. -/
def setK (t : Nat) (r : Row) : Own → Own
  | [] => []
  | x :: K => if x.1 = t then (t, r) :: K else x :: setK t r K
theorem addA_none (b o n : Nat) : (⟨b, o, none⟩ : Addr).add n = ⟨b, o + n, none⟩ := by
  unfold Addr.add; split <;> simp_all
theorem heap_setCell {w : World} {b o : Nat} {v : Value} {cur : Array Value} {e : TypeId} {fr : Nat × Nat} (h : w.heap[b]? = some (.cells cur e fr)) :
    (w.setCell ⟨b, o, none⟩ v).heap[b]? = some (.cells (cur.setIfInBounds o v) e fr) := by
  simp only [World.setCell, Array.getElem?_modify, if_true, h, Option.map_some]
  simp
theorem run_storeCells_row {P : Program} (b o : Nat) (e : TypeId) (fr : Nat × Nat) : ∀ (vs : List Value) (i : Nat) (cur : List Value) (w : World), w.heap[b]? = some (.cells cur.toArray e fr) → o + i + vs.length ≤ cur.length →
    (fr = (0, 0) ∨ cur.length ≤ fr.1) → (∀ v ∈ vs, v.oneCell' = true) →
    ∃ w', (storeCells ⟨b, o, none⟩ vs i).run P w = .ok () w' ∧ w'.heap[b]? = some (.cells (putL cur (o + i) vs).toArray e fr) ∧ (∀ k, k ≠ b → w'.heap[k]? = w.heap[k]?) ∧ w'.heap.size = w.heap.size ∧ w'.os = w.os ∧ w'.tape = w.tape ∧ w'.output = w.output
  | [], i, cur, w, h, _, _, _ => ⟨w, rfl, h, fun _ _ => rfl, rfl, rfl, rfl, rfl⟩
  | v :: vs, i, cur, w, h, hl, hf, h1 => by
    simp only [List.length_cons] at hl
    have hc : w.cell? ⟨b, o + i, none⟩ = some (cur[o + i]'(by omega)) := by
      simp only [World.cell?, h]
      simp [List.getElem?_eq_getElem (show o + i < cur.length by omega)]
    have hz : w.frozen? ⟨b, o + i, none⟩ = false := by
      obtain ⟨lo, hi⟩ := fr
      simp only [World.frozen?, h]
      simp only [Bool.and_eq_false_iff, decide_eq_false_iff_not]
      rcases hf with hf | hf
      · simp only [Prod.mk.injEq] at hf; omega
      · simp only at hf; omega
    have hst : (store ((⟨b, o, none⟩ : Addr).add i) v).run P w = .ok () (w.setCell ⟨b, o + i, none⟩ v) := by
      rw [addA_none, run_store P w _ v _ (h1 v List.mem_cons_self), hc]
      simp only [hz, Bool.false_eq_true, if_false]
    have hb := heap_setCell (o := o + i) (v := v) h
    have hb' : (w.setCell ⟨b, o + i, none⟩ v).heap[b]? = some (.cells (cur.set (o + i) v).toArray e fr) := by rw [hb]; simp
    obtain ⟨w', r1, r2, r3, r4, r5, r6, r7⟩ := run_storeCells_row (P := P) b o e fr vs (i + 1) (cur.set (o + i) v) _ hb' (by simp; omega) (by simpa using hf) (fun u hu => h1 u (List.mem_cons_of_mem _ hu))
    refine ⟨w', ?_, ?_, fun k hk => ?_, ?_, r5, r6, r7⟩
    · simp only [storeCells, Sem.run_bind, hst, Result.andThen_ok]; exact r1
    · rw [r2]; rfl
    · rw [r3 k hk]; exact Below.heap_setCell w _ v k hk
    · rw [r4]; simp [World.setCell]
theorem putL_append : ∀ (vs cs junk : List Value) (o : Nat), o + vs.length ≤ cs.length → putL (cs ++ junk) o vs = putL cs o vs ++ junk
  | [], _, _, _, _ => rfl
  | v :: vs, cs, junk, o, h => by
    simp only [List.length_cons] at h
    simp only [putL, List.set_append_left _ _ (show o < cs.length by omega)]
    exact putL_append vs (cs.set o v) junk (o + 1) (by simp; omega)
theorem putL_end : ∀ (vs cs junk : List Value), vs.length ≤ junk.length → putL (cs ++ junk) cs.length vs = cs ++ vs ++ junk.drop vs.length
  | [], cs, junk, _ => by simp [putL]
  | v :: vs, cs, [], h => by simp at h
  | v :: vs, cs, j :: junk, h => by
    simp only [List.length_cons] at h
    have e : (cs ++ j :: junk).set cs.length v = (cs ++ [v]) ++ junk := by simp
    simp only [putL, e]
    have := putL_end vs (cs ++ [v]) junk (by omega)
    rw [show (cs ++ [v]).length = cs.length + 1 from by simp] at this
    rw [this]; simp
theorem putL_mem : ∀ (vs cs : List Value) (o : Nat) (u : Value), u ∈ putL cs o vs → u ∈ cs ∨ u ∈ vs
  | [], _, _, _, h => .inl h
  | v :: vs, cs, o, u, h => by
    rcases putL_mem vs (cs.set o v) (o + 1) u h with h | h
    · rcases List.mem_or_eq_of_mem_set h with h | h
      · exact .inl h
      · exact .inr (by subst h; exact List.mem_cons_self)
    · exact .inr (List.mem_cons_of_mem _ h)
theorem setK_ids (ι : Nat → Nat) (t : Nat) (r : Row) : ∀ (K : Own), ((setK t r K).map fun x => ι x.1) = K.map fun x => ι x.1
  | [] => rfl
  | x :: K => by
    simp only [setK]
    split
    · rename_i h; simp [h]
    · simp [setK_ids ι t r K]
theorem setK_mem {ι : Nat → Nat} {t : Nat} {r : Row} : ∀ {K : Own}, (K.map fun x => ι x.1).Nodup → ∀ x ∈ setK t r K, x = (t, r) ∨ (x ∈ K ∧ x.1 ≠ t ∧ (∀ y ∈ K, y.1 = t → ι x.1 ≠ ι t))
  | [], _, x, h => by simp [setK] at h
  | y :: K, hn, x, h => by
    simp only [List.map_cons, List.nodup_cons] at hn
    simp only [setK] at h
    split at h
    · rename_i e
      rcases List.mem_cons.1 h with h | h
      · exact .inl h
      · have h2 : ι x.1 ≠ ι t := fun e2 => hn.1 (List.mem_map.2 ⟨x, h, by rw [e2, e]⟩)
        exact .inr ⟨List.mem_cons_of_mem _ h, fun e2 => h2 (by rw [e2]), fun _ _ _ => h2⟩
    · rename_i e
      rcases List.mem_cons.1 h with h | h
      · subst h
        refine .inr ⟨List.mem_cons_self, e, fun z hz hzt => ?_⟩
        rcases List.mem_cons.1 hz with hz | hz
        · subst hz; exact absurd hzt e
        · intro e2; exact hn.1 (List.mem_map.2 ⟨z, hz, by rw [hzt, e2]⟩)
      · rcases setK_mem hn.2 x h with h | ⟨h1, h2, h3⟩
        · exact .inl h
        · refine .inr ⟨List.mem_cons_of_mem _ h1, h2, fun z hz hzt => ?_⟩
          rcases List.mem_cons.1 hz with hz | hz
          · subst hz; exact absurd hzt e
          · exact h3 z hz hzt
/-- one of the call's own rows, written -/
theorem St.set {F : Mem} {ι : Nat → Nat} {K : Own} {w w' : World} (h : St F ι K w) {t : Nat} {r r' : Row} (hr : K.lookup t = some r) (hw : ∀ k, k ≠ ι t → w'.heap[k]? = w.heap[k]?) (hsz : w'.heap.size = w.heap.size)
    (hos : w'.os = w.os) (htp : w'.tape = w.tape) (hou : w'.output = w.output) (hh : Holds w' (ι t) (r'.c ι)) (hflat : r'.flat = true → ∀ v ∈ r'.cs, plain1 v = true) : St F ι (setK t r' K) w' := by
  obtain ⟨hB, _, _⟩ := h.own _ (lookup_mem hr)
  have hnd := (List.nodup_append.1 h.nodup)
  refine ⟨⟨hos.trans h.below.os, htp.trans h.below.tape, hou.trans h.below.output, by rw [hsz]; exact h.below.size, fun k hk => ?_⟩, by rw [setK_ids]; exact h.nodup, fun x hx => ?_, fun x hx => ?_⟩
  · rw [hw k (by simp only at hB; omega)]; exact h.below.block k hk
  · rcases setK_mem hnd.1 x hx with rfl | ⟨h1, h2, h3⟩
    · exact ⟨hB, hh, hflat⟩
    · obtain ⟨h4, h5, h6⟩ := h.own x h1
      exact ⟨h4, h5.congr (hw _ (h3 _ (lookup_mem hr) rfl)), h6⟩
  · obtain ⟨h4, h5⟩ := h.ext x hx
    refine ⟨h4, h5.congr (hw _ fun e => ?_)⟩
    exact hnd.2.2 (ι t) (List.mem_map.2 ⟨_, lookup_mem hr, rfl⟩) x.1 (List.mem_map.2 ⟨x, hx, rfl⟩) e.symm
section
variable {P : Program} {Θ : Tab} {N : Nat} {D : List Nat} {F : Mem} {K : Own} {L : Slots} {T : Mem → Slots → Own → Prop} (hT : tabOk P Θ = true)
include hT
theorem Go1.store {o : Oper} {ty : TypeId} {x y : Operand} {t off : Nat} {v : Value} {r : Row} {ti : Ty} (ho : o.op = .store ty x y) (hd : o.dst = none) (hi : Θ.lookup ty = some ti)
    (hx : evO L x = some (.pointer (some ⟨t, off, some 0⟩))) (hy : evO L y = some v) (hv : okV v = true) (hr : K.lookup t = some r) (hsz : (cellsL v).length = ti.size) (hle : off + (cellsL v).length ≤ r.cs.length)
    (h : T F L (setK t { r with cs := putL r.cs off (cellsL v), flat := r.flat && (cellsL v).all plain1 } K)) : Go1 P N D F L K o T := by
  obtain ⟨hnt, h1⟩ := okV_cells hv
  intro ι a w hF hS
  obtain ⟨_, hh, hfl⟩ := hS.own _ (lookup_mem hr)
  obtain ⟨junk, fr, hb, hl, hf, hone⟩ := hh
  simp only [Row.c] at hb hl hone
  obtain ⟨w', r1, r2, r3, r4, r5, r6, r7⟩ := run_storeCells_row (P := P) (ι t) off r.elem fr ((cellsL v).map (c1 ι)) 0 (r.cs.map (c1 ι) ++ junk) w hb (by simp at hl ⊢; omega) (by
    rcases hf with hf | hf
    · exact .inl hf
    · right
      have := hf.2
      simp only [Row.c] at this
      simp at hl ⊢
      omega) (fun u hu => by obtain ⟨u', hu', rfl⟩ := List.mem_map.1 hu; rw [c1_oneCell]; exact h1 _ hu')
  refine ⟨ι, w', undef, F, L, _, .inr ⟨?_, rfl⟩, by rw [hd]; exact hF, ?_, fun _ _ => rfl, h⟩
  · obtain ⟨dst, op, type, pos, after, guard⟩ := o
    simp only at ho
    subst ho
    have hc := cellsL_c ι hnt
    have : (cV ι v).cells.size = ti.size := by rw [hc]; simp [hsz]
    simp only [execOp, hF.ev hx, hF.ev hy, cV_ptr, cA_own, Instr.storeAt, Instr.sureAddr, storeVar, Sem.run_bind, Sem.run_pure, Result.andThen_ok, (tab_ty hT hi).run_size, this, ne_eq, not_true_eq_false, if_false, Sem.run_ite]
    rw [hc]
    simp only [r1, Result.andThen_ok]
  · refine hS.set hr r3 r4 r5 r6 r7 ⟨junk, fr, ?_, ?_, ?_, ?_⟩ (fun hf2 u hu => ?_)
    · rw [r2]
      simp only [Row.c, Nat.add_zero]
      rw [putL_append _ _ _ _ (by simp; omega), putL_map]
    · simp only [Row.c, List.length_map, putL_length] at hl ⊢; exact hl
    · exact hf
    · intro u hu
      simp only [Row.c] at hu
      rcases List.mem_append.1 hu with hu | hu
      · obtain ⟨u', hu', rfl⟩ := List.mem_map.1 hu
        rw [c1_oneCell]
        rcases putL_mem _ _ _ _ hu' with hu' | hu'
        · have := hone (c1 ι u') (List.mem_append_left _ (List.mem_map.2 ⟨u', hu', rfl⟩))
          rwa [c1_oneCell] at this
        · exact h1 _ hu'
      · exact hone u (List.mem_append_right _ hu)
    · simp only [Bool.and_eq_true] at hf2
      rcases putL_mem _ _ _ _ hu with hu | hu
      · exact hfl hf2.1 u hu
      · exact List.all_eq_true.1 hf2.2 u hu
end
end Go.Proofs.Ytbeblgjibfoanaa.Am
