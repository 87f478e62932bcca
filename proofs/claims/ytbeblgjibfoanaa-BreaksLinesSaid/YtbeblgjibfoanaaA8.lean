/- Rules for walking Go functions with memory told by tags (A8). -/
import Derived.Test.YtbeblgjibfoanaaA7
import Derived.Laws.Cells
namespace Go.Proofs.Ytbeblgjibfoanaa.Am
set_option linter.unusedSimpArgs false
set_option linter.unusedVariables false
open Go Go.RowKit
/-! Loads. -/
def lookN (F : Mem) (a : Addr) : Nat → Option (List Value)
  | 0 => some []
  | n + 1 => match look F a with
    | some v => match lookN F (addA a 1) n with
      | some l => some (v :: l)
      | none => none
    | none => none
def rdN (F : Mem) (K : Own) (a : Addr) (n : Nat) : Option (List Value) := match a.spot with
  | some (_ + 1) => if n = 0 then some [] else none
  | some 0 => match K.lookup a.block with
    | some r => if a.off + n ≤ r.cs.length then some ((r.cs.drop a.off).take n) else none
    | none => none
  | none => lookN F a n
theorem addA_zero (a : Addr) : addA a 0 = a := by obtain ⟨b, o, s⟩ := a; rcases s with _ | _ | s <;> simp [addA]
theorem addA_addA (a : Addr) (n m : Nat) : addA (addA a n) m = addA a (n + m) := by
  obtain ⟨b, o, s⟩ := a
  rcases s with _ | _ | s
  · simp [addA, Nat.add_assoc]
  · simp [addA, Nat.add_assoc]
  · by_cases h : n = 0
    · subst h; simp [addA]
    · have : n + m ≠ 0 := by omega
      simp [addA, h, this, Nat.add_assoc]
theorem lookN_spec {F : Mem} : ∀ {n : Nat} {a : Addr} {cs : List Value}, lookN F a n = some cs → cs.length = n ∧ ∀ j v, cs[j]? = some v → look F (addA a j) = some v
  | 0, a, cs, h => by simp only [lookN, Option.some.injEq] at h; subst h; exact ⟨rfl, fun j v h => by simp at h⟩
  | n + 1, a, cs, h => by
    simp only [lookN] at h
    split at h <;> try (simp at h; done)
    rename_i v hv
    split at h <;> try (simp at h; done)
    rename_i l hl
    simp only [Option.some.injEq] at h
    subst h
    obtain ⟨h1, h2⟩ := lookN_spec hl
    refine ⟨by simp [h1], fun j u hj => ?_⟩
    cases j with
    | zero => simp only [List.getElem?_cons_zero, Option.some.injEq] at hj; subst hj; rw [addA_zero]; exact hv
    | succ j =>
      have := h2 j u (by simpa using hj)
      rw [← this, addA_addA, Nat.add_comm 1 j]
theorem St.rdN {F : Mem} {ι : Nat → Nat} {K : Own} {w : World} (h : St F ι K w) {a : Addr} {n : Nat} {cs : List Value} (hv : rdN F K a n = some cs) :
    cs.length = n ∧ ∀ j v, (cs.map (c1 ι))[j]? = some v → w.cell? ((cA ι a).add j) = some v := by
  obtain ⟨b, o, s⟩ := a
  rcases s with _ | _ | s
  · obtain ⟨h1, h2⟩ := lookN_spec (show lookN F ⟨b, o, none⟩ n = some cs from hv)
    refine ⟨h1, fun j v hj => ?_⟩
    rw [List.getElem?_map] at hj
    cases hu : cs[j]? with
    | none => simp [hu] at hj
    | some u =>
      simp only [hu, Option.map_some, Option.some.injEq] at hj
      subst hj
      obtain ⟨h3, h4⟩ := h.look_cell (a := addA ⟨b, o, none⟩ j) rfl (h2 j u hu) ι
      rw [cA_ext, ← h3]
      congr 1
      simp only [addA, Addr.add]
      split <;> simp_all
  · simp only [Am.rdN] at hv
    split at hv <;> try (simp at hv; done)
    rename_i r hr
    split at hv <;> try (simp at hv; done)
    rename_i hle
    simp only [Option.some.injEq] at hv
    subst hv
    obtain ⟨_, hh, _⟩ := h.own _ (lookup_mem hr)
    refine ⟨by simp; omega, fun j v hj => ?_⟩
    have : (r.c ι).cs[o + j]? = some v := by
      rw [← hj]
      have hlt : j < n := by
        have := (List.getElem?_eq_some_iff.1 hj).1
        simp at this; omega
      simp [Row.c, List.getElem?_map, List.getElem?_take, List.getElem?_drop, hlt]
    have := hh.cell this
    rw [← this]
    simp only [Nat.zero_add, cA_own]
    congr 1
    simp only [Addr.add]
    split <;> simp_all
  · simp only [Am.rdN] at hv
    split at hv
    · simp only [Option.some.injEq] at hv
      subst hv
      exact ⟨by simp [*], fun j v hj => by simp at hj⟩
    · cases hv
theorem St.own_one {F : Mem} {ι : Nat → Nat} {K : Own} {w : World} (h : St F ι K w) {a : Addr} {v : Value} (hv : rdA F K a = some v) : v.oneCell' = true := by
  obtain ⟨b, o, s⟩ := a
  rcases s with _ | _ | s
  · obtain ⟨h1, h2⟩ := h.look_cell (a := ⟨b, o, none⟩) rfl hv ι
    cases v <;> first | rfl | simp [plain1] at h2
  · simp only [rdA] at hv
    rw [Option.bind_eq_some_iff] at hv
    obtain ⟨r, hr, hc⟩ := hv
    obtain ⟨_, hh, _⟩ := h.own _ (lookup_mem hr)
    obtain ⟨junk, fr, _, _, _, h1⟩ := hh
    have : c1 ι v ∈ (r.c ι).cs ++ junk := List.mem_append_left _ (List.mem_map.2 ⟨v, List.mem_of_getElem? hc, rfl⟩)
    rw [← c1_oneCell ι]; exact h1 _ this
  · cases hv
section
variable {P : Program} {Θ : Tab} {F : Mem} {K : Own} {L : Slots} (hT : tabOk P Θ = true)
include hT
theorem SD.load {t : TypeId} {x : Operand} {a : Addr} {ti : Ty} {v : Value} (ht : Θ.lookup t = some ti) (hag : aggB ti.k = false) (hx : evO L x = some (.pointer (some a))) (hv : rdA F K a = some v) : SD P F K L (.load t x) v := by
  intro ι ρ he o' ho w hS
  obtain ⟨dst, op, type, pos, after, guard⟩ := o'
  simp only at ho
  subst ho
  have h1 := hS.own_one hv
  simp only [execOp, he _ _ hx, cV_ptr, Instr.loadAt, Instr.sureAddr, loadVar, Sem.run_bind, Sem.run_pure, Result.andThen_ok, (tab_ty hT ht).run_agg, hag, Bool.false_eq_true, if_false, run_load, hS.rd hv, cV_one ι h1]
theorem SD.loadN {t : TypeId} {x : Operand} {a : Addr} {ti : Ty} {cs : List Value} (ht : Θ.lookup t = some ti) (hag : aggB ti.k = true) (hx : evO L x = some (.pointer (some a))) (hv : rdN F K a ti.size = some cs) : SD P F K L (.load t x) (.agg ⟨cs⟩) := by
  intro ι ρ he o' ho w hS
  obtain ⟨dst, op, type, pos, after, guard⟩ := o'
  simp only at ho
  subst ho
  obtain ⟨hl, hc⟩ := hS.rdN hv
  have := run_loadCells_list (P := P) (w := w) (cA ι a) (cs.map (c1 ι)) hc
  rw [List.length_map, hl] at this
  simp only [execOp, he _ _ hx, cV_ptr, Instr.loadAt, Instr.sureAddr, loadVar, Sem.run_bind, Sem.run_pure, Result.andThen_ok, (tab_ty hT ht).run_agg, hag, if_true, (tab_ty hT ht).run_size, this, cV_agg]
  simp
/-! Cuts. -/
theorem SD.cutStr {t : TypeId} {x : Operand} {lo hi : Option Operand} {s : ByteArray} {l h : Nat} {ti : Ty} (ht : Θ.lookup t = some ti) (hk : ti.k = .string) (hx : evO L x = some (.string s))
    (hlo : match lo with | some y => ∃ k, evO L y = some (.int k (l : Int)) | none => l = 0) (hhi : match hi with | some y => ∃ k, evO L y = some (.int k (h : Int)) | none => h = s.size) (h0 : l ≤ h) (h1 : h ≤ s.size) :
    SD P F K L (.slice t x lo hi none) (.string (s.extract l h)) := by
  intro ι ρ he o' ho w _
  obtain ⟨dst, op, type, pos, after, guard⟩ := o'
  simp only at ho
  subst ho
  obtain ⟨d, hd, hkd⟩ := (tab_ty hT ht).und
  rw [hk] at hkd
  cases d <;> try (simp [kindB] at hkd; done)
  cases lo with
  | none =>
    simp only at hlo
    subst hlo
    cases hi with
    | none =>
      simp only at hhi
      subst hhi
      simp [execOp, he _ _ hx, Instr.sliceAt, Instr.slice, Instr.sliceBounds, run_underlying hd]
    | some y =>
      obtain ⟨k, hy⟩ := hhi
      simp [execOp, he _ _ hx, he _ _ hy, Instr.sliceAt, Instr.slice, Instr.sliceBounds, Instr.sliceBound, asIntOf, run_underlying hd, h1]
  | some z =>
    obtain ⟨k', hz⟩ := hlo
    cases hi with
    | none =>
      simp only at hhi
      subst hhi
      simp [execOp, he _ _ hx, he _ _ hz, Instr.sliceAt, Instr.slice, Instr.sliceBounds, Instr.sliceBound, asIntOf, run_underlying hd, h0]
    | some y =>
      obtain ⟨k, hy⟩ := hhi
      simp [execOp, he _ _ hx, he _ _ hy, he _ _ hz, Instr.sliceAt, Instr.slice, Instr.sliceBounds, Instr.sliceBound, asIntOf, run_underlying hd, h0, h1]
/-- a cut of a slice: where nothing is left of the room the address stays -/
theorem SD.cutS {t el : TypeId} {x : Operand} {lo hi : Option Operand} {a : Addr} {n c l h : Nat} {ti tj : Ty} (ht : Θ.lookup t = some ti) (hk : ti.k = .slice el) (hj : Θ.lookup el = some tj) (hx : evO L x = some (.slice (some a) n c))
    (hlo : match lo with | some y => ∃ k, evO L y = some (.int k (l : Int)) | none => l = 0) (hhi : match hi with | some y => ∃ k, evO L y = some (.int k (h : Int)) | none => h = n) (h0 : l ≤ h) (h1 : h ≤ c) :
    SD P F K L (.slice t x lo hi none) (.slice (some (if c = l then a else addA a (l * tj.size))) (h - l) (c - l)) := by
  intro ι ρ he o' ho w _
  obtain ⟨dst, op, type, pos, after, guard⟩ := o'
  simp only at ho
  subst ho
  obtain ⟨d, hd, hkd⟩ := (tab_ty hT ht).und
  rw [hk] at hkd
  cases d <;> try (simp [kindB] at hkd; done)
  simp only [kindB, beq_iff_eq] at hkd
  subst hkd
  have e2 : (if c = l then some (cA ι a) else some ((cA ι a).add (l * tj.size))) = some (cA ι (if c = l then a else addA a (l * tj.size))) := by
    split
    · rfl
    · rw [cA_addA]
  cases lo with
  | none =>
    simp only at hlo
    subst hlo
    simp only [Nat.zero_mul] at e2
    cases hi with
    | none =>
      simp only at hhi
      subst hhi
      simp [execOp, he _ _ hx, Instr.sliceAt, Instr.slice, Instr.sliceBounds, run_underlying hd, (tab_ty hT hj).run_size]; exact e2
    | some y =>
      obtain ⟨k, hy⟩ := hhi
      simp [execOp, he _ _ hx, he _ _ hy, Instr.sliceAt, Instr.slice, Instr.sliceBounds, Instr.sliceBound, asIntOf, run_underlying hd, h1, (tab_ty hT hj).run_size]; exact e2
  | some z =>
    obtain ⟨k', hz⟩ := hlo
    cases hi with
    | none =>
      simp only at hhi
      subst hhi
      simp [execOp, he _ _ hx, he _ _ hz, Instr.sliceAt, Instr.slice, Instr.sliceBounds, Instr.sliceBound, asIntOf, run_underlying hd, h0, (tab_ty hT hj).run_size, ← e2]
    | some y =>
      obtain ⟨k, hy⟩ := hhi
      simp [execOp, he _ _ hx, he _ _ hy, he _ _ hz, Instr.sliceAt, Instr.slice, Instr.sliceBounds, Instr.sliceBound, asIntOf, run_underlying hd, h0, h1, (tab_ty hT hj).run_size, ← e2]
end
end Go.Proofs.Ytbeblgjibfoanaa.Am
