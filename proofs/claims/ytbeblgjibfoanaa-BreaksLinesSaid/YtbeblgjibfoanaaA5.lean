/- Rules for walking Go functions with memory told by tags (A5). -/
import Derived.Test.YtbeblgjibfoanaaA4
namespace Go.Proofs.Ytbeblgjibfoanaa.Am
set_option linter.unusedSimpArgs false
set_option linter.unusedVariables false
open Go Go.RowKit
section
variable {P : Program} {Θ : Tab} {ι : Nat → Nat} {ρ : Operand → Value} {e : Operand → Option Value}
theorem veqs_plain (ι : Nat → Nat) : ∀ (us vs : List Value), veqs us vs = true → vs.map (c1 ι) = vs
  | [], [], _ => rfl
  | [], _ :: _, h => by simp [veqs] at h
  | _ :: _, [], h => by simp [veqs] at h
  | u :: us, v :: vs, h => by
    simp only [veqs, Bool.and_eq_true] at h
    simp only [List.map_cons, veqs_plain ι us vs h.2, List.cons.injEq, and_true]
    obtain ⟨h1, _⟩ := h
    cases u <;> cases v <;> first
      | rfl
      | (simp [veq] at h1; done)
      | (rename_i a b; cases a <;> cases b <;> first | rfl | (simp [veq] at h1; done))
      | (rename_i a n c b m d; cases a <;> cases b <;> first | rfl | (simp [veq] at h1; done))
theorem TyOk.zero_plain {t : TypeId} {i : Ty} (ty : TyOk P t i) (ι : Nat → Nat) : i.zero.map (c1 ι) = i.zero := by
  obtain ⟨inf, _, _, _, h4⟩ := ty.info
  unfold zeroB at h4
  cases hzz : inf.zero with
  | none => simp [hzz] at h4
  | some z' =>
    rw [hzz] at h4
    cases z' <;> simp only [Bool.and_eq_true] at h4 <;> first | exact veqs_plain ι _ _ h4.2 | exact veqs_plain ι _ _ h4.1.2
theorem run_mapM_list {α β : Type} (f : α → Sem β) (g : α → β) (w : World) : ∀ (l : List α), (∀ x ∈ l, (f x).run P w = .ok (g x) w) → (l.mapM f).run P w = .ok (l.map g) w
  | [], _ => by simp
  | x :: l, h => by
    simp [h x List.mem_cons_self, run_mapM_list f g w l (fun y hy => h y (List.mem_cons_of_mem _ hy))]
theorem places_run (hT : tabOk P Θ = true) {fields : Array Field} (hall : ∀ f ∈ fields.toList, (Θ.lookup f.type).isSome = true) (w : World) :
    (fields.mapM fun f => (do pure (f.offset, ← sizeOf f.type) : Sem (Nat × Nat))).run P w = .ok (fields.toList.map fun f => (f.offset, ((Θ.lookup f.type).map (·.size)).getD 0)).toArray w := by
  rw [Array.mapM_eq_mapM_toList]
  simp only [Sem.run_map]
  rw [run_mapM_list _ (fun f => (f.offset, ((Θ.lookup f.type).map (·.size)).getD 0))]
  · rfl
  · intro f hf
    have := hall f hf
    cases hi : Θ.lookup f.type with
    | none => simp [hi] at this
    | some i => simp [(tab_ty hT hi).run_size]
theorem dBuild (hT : tabOk P Θ = true) (he : ∀ x u, e x = some u → ρ x = cV ι u) {t : TypeId} {parts : Array (Nat × Operand)} {v : Value}
    (h : dOp Θ e (.build t parts) = some v) (w : World) : (Instr.build t (parts.map fun (i, x) => (i, ρ x))).run P w = .ok (cV ι v) w := by
  simp only [dOp] at h
  split at h <;> try (simp at h; done)
  rename_i i hi
  have ty := tab_ty hT hi
  obtain ⟨z, hz, hzl, _, _⟩ := ty.run_zero w
  have zplain := ty.zero_plain ι
  have hzc : z.cells = (i.zero.map (c1 ι)).toArray := by rw [zplain, ← hzl]
  split at h <;> try (simp at h; done)
  · rename_i fs hk
    split at h <;> try (simp at h; done)
    rename_i ps hps
    split at h <;> try (simp at h; done)
    rename_i cs hcs
    split at h <;> try (simp at h; done)
    rename_i hall
    simp only [Option.some.injEq] at h
    subst h
    obtain ⟨d, hd, hkd⟩ := ty.und
    rw [hk] at hkd
    cases d <;> try (simp [kindB] at hkd; done)
    rename_i fields
    simp only [kindB, beq_iff_eq] at hkd
    subst hkd
    obtain ⟨hl, hq⟩ := partsL_run he hps
    have hall' : ∀ f ∈ fields.toList, (Θ.lookup f.type).isSome = true := fun f hf => List.all_eq_true.1 hall (f.offset, f.type) (List.mem_map.2 ⟨f, hf, rfl⟩)
    have hfill := fill_run (ι := ι) (place' := ((fields.toList.map fun f => (f.offset, ((Θ.lookup f.type).map (·.size)).getD 0)).toArray[·]?)) (fun k p hp => by
      unfold placeS at hp
      split at hp <;> try (simp at hp; done)
      rename_i o j ho
      simp only [Option.some.injEq] at hp
      subst hp
      unfold fldOf at ho
      simp only [hi, hk] at ho
      split at ho <;> try (simp at ho; done)
      rename_i o' t' hf
      split at ho <;> try (simp at ho; done)
      rename_i j' hj
      simp only [Option.some.injEq, Prod.mk.injEq] at ho
      obtain ⟨rfl, rfl⟩ := ho
      rw [List.getElem?_map] at hf
      simp only [List.getElem?_toArray, List.getElem?_map]
      cases hg : fields.toList[k]? with
      | none => simp [hg] at hf
      | some g =>
        simp only [hg, Option.map_some, Option.some.injEq, Prod.mk.injEq] at hf
        simp [hf.1, hf.2, hj]) (by simpa using hl) hq hcs
    simp only [Instr.build, Sem.run_bind, hz, Result.andThen_ok, run_underlying hd, places_run hT hall', hzc]
    have e1 : (parts.map fun (i, x) => (i, ρ x)).toList = parts.toList.map fun (i, x) => (i, ρ x) := by simp
    rw [e1, hfill]
    simp
  · rename_i n el hk
    split at h <;> try (simp at h; done)
    rename_i j ps hj hps
    split at h <;> try (simp at h; done)
    rename_i cs hcs
    simp only [Option.some.injEq] at h
    subst h
    obtain ⟨d, hd, hkd⟩ := ty.und
    rw [hk] at hkd
    cases d <;> try (simp [kindB] at hkd; done)
    rename_i n' el'
    simp only [kindB, Bool.and_eq_true, beq_iff_eq] at hkd
    obtain ⟨rfl, rfl⟩ := hkd
    obtain ⟨hl, hq⟩ := partsL_run he hps
    have hfill := fill_run (ι := ι) (fun k p hp => hp) (by simpa using hl) hq hcs
    simp only [Instr.build, Sem.run_bind, hz, Result.andThen_ok, run_underlying hd, (tab_ty hT hj).run_size, hzc]
    have e1 : (parts.map fun (i, x) => (i, ρ x)).toList = parts.toList.map fun (i, x) => (i, ρ x) := by simp
    rw [e1, hfill]
    simp
end
end Go.Proofs.Ytbeblgjibfoanaa.Am
