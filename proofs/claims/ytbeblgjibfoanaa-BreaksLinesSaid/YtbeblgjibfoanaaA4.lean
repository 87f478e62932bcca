/- Rules for walking Go functions with memory told by tags (A4). -/
import Derived.Test.YtbeblgjibfoanaaA3
namespace Go.Proofs.Ytbeblgjibfoanaa.Am
set_option linter.unusedSimpArgs false
set_option linter.unusedVariables false
open Go Go.RowKit
section
variable {P : Program} {Θ : Tab} {ι : Nat → Nat} {ρ : Operand → Value} {e : Operand → Option Value}
theorem mapE_run (he : ∀ x u, e x = some u → ρ x = cV ι u) : ∀ {xs : List Operand} {vs : List Value}, mapE e xs = some vs → xs.map ρ = vs.map (cV ι)
  | [], vs, h => by simp only [mapE, Option.some.injEq] at h; subst h; rfl
  | x :: xs, vs, h => by
    simp only [mapE] at h
    split at h <;> try (simp at h; done)
    rename_i v hv
    split at h <;> try (simp at h; done)
    rename_i l hl
    simp only [Option.some.injEq] at h
    subst h
    simp [he _ _ hv, mapE_run he hl]
theorem run_und_struct {s : TypeId} {fields : Array Field} (h : P.underlying s = some (.struct fields)) (w : World) : (underlying s).run P w = .ok (.struct fields) w := run_underlying h w
theorem dField_addr (hT : tabOk P Θ = true) {s : TypeId} {f o : Nat} {j : Ty} (h : fldOf Θ s f = some (o, j)) (hj : j.size ≠ 0) (a : Addr) (w : World) :
    (Instr.fieldAt s (.pointer (some (cA ι a))) f).run P w = .ok (.pointer (some (cA ι (addA a o)))) w := by
  obtain ⟨fields, g, h1, h2, h3, h4⟩ := fldOf_run hT h
  simp [Instr.fieldAt, run_underlying h1, h2, Instr.sureAddr, fieldPlace, h4.run_size, hj, cA_addA, h3]
theorem dField (hT : tabOk P Θ = true) {s : TypeId} {f o : Nat} {j : Ty} {cs : Array Value} {v : Value} (h : fldOf Θ s f = some (o, j))
    (hv : (if aggB j.k then some (.agg ⟨(cs.toList.drop o).take j.size⟩) else match cs.toList[o]? with | some v => if v.oneCell' then some v else none | none => none) = some v) (w : World) :
    (Instr.field s (cV ι (.agg cs)) f).run P w = .ok (cV ι v) w := by
  obtain ⟨fields, g, h1, h2, h3, h4⟩ := fldOf_run hT h
  simp only [Instr.field, Sem.run_bind, run_underlying h1, Result.andThen_ok, h2, cV_agg, asAgg, Sem.run_pure, part, h4.run_agg, h3]
  split at hv
  · rename_i hk
    simp only [Option.some.injEq] at hv
    subst hv
    simp only [hk, if_true, Sem.run_bind, h4.run_size, Result.andThen_ok, Sem.run_pure, cV_agg, Result.ok.injEq, Value.agg.injEq, and_true]
    apply Array.ext'
    simp [List.map_drop, List.map_take]
  · rename_i hk
    split at hv <;> try (simp at hv; done)
    rename_i u hu
    split at hv <;> try (simp at hv; done)
    rename_i h1u
    simp only [Option.some.injEq] at hv
    subst hv
    have hk' : aggB j.k = false := by simpa using hk
    simp only [hk', Bool.false_eq_true, if_false]
    have : (cs.map (c1 ι))[o]? = some (c1 ι u) := by
      rw [Array.getElem?_map]; rw [show cs[o]? = some u from by simpa using hu]; rfl
    rw [this]
    simp [cV_one ι h1u]
theorem putL_length : ∀ (vs cells : List Value) (o : Nat), (putL cells o vs).length = cells.length
  | [], _, _ => rfl
  | v :: vs, cells, o => by simp [putL, putL_length vs]
theorem putL_map (g : Value → Value) : ∀ (vs cells : List Value) (o : Nat), (putL cells o vs).map g = putL (cells.map g) o (vs.map g)
  | [], _, _ => rfl
  | v :: vs, cells, o => by simp [putL, putL_map g vs, List.map_set]
theorem fold_putL : ∀ (vs : List Value) (k o : Nat) (cells : Array Value), (vs.zipIdx k).foldl (fun cs (c, j) => cs.setIfInBounds (o + j) c) cells = (putL cells.toList (o + k) vs).toArray
  | [], k, o, cells => by simp [putL]
  | v :: vs, k, o, cells => by
    simp only [List.zipIdx_cons, List.foldl_cons, putL]
    rw [fold_putL vs (k + 1) o]
    simp [Nat.add_assoc]
theorem cellsL_c (ι : Nat → Nat) {v : Value} (h : ∀ vs, v ≠ .tuple vs) : (cV ι v).cells = ((cellsL v).map (c1 ι)).toArray := by
  rw [cV_cells h]
  cases v <;> first | (simp [cellsL, Value.cells]; done) | (apply Array.ext'; simp [cellsL, Value.cells])
theorem fill_run {place place' : Nat → Option (Nat × Nat)} (hpl : ∀ i p, place i = some p → place' i = some p) : ∀ {ps : List (Nat × List Value)} {qs : List (Nat × Value)} {cells cs : List Value},
    qs.length = ps.length → (∀ (i : Nat) (p : Nat × List Value) (q : Nat × Value), ps[i]? = some p → qs[i]? = some q → q.1 = p.1 ∧ q.2.cells = (p.2.map (c1 ι)).toArray) → fillL place cells ps = some cs →
    Instr.fill place' (cells.map (c1 ι)).toArray qs = some (cs.map (c1 ι)).toArray
  | [], [], cells, cs, _, _, h => by simp only [fillL, Option.some.injEq] at h; subst h; rfl
  | p :: ps, q :: qs, cells, cs, hl, hq, h => by
    obtain ⟨i, vs⟩ := p
    obtain ⟨i', u⟩ := q
    obtain ⟨e1, e2⟩ := hq 0 _ _ rfl rfl
    simp only at e1 e2
    subst e1
    simp only [fillL] at h
    split at h <;> try (simp at h; done)
    rename_i o n hp
    split at h <;> try (simp at h; done)
    rename_i hc
    simp only [Instr.fill, hpl _ _ hp]
    rw [e2]
    rw [if_neg (by simp; omega)]
    have := fill_run hpl (ps := ps) (qs := qs) (by simpa using hl) (fun i p q h1 h2 => hq (i + 1) p q (by simpa using h1) (by simpa using h2)) h
    rw [← this]
    congr 1
    rw [← Array.foldl_toList]
    have hz : (Array.zipIdx (vs.map (c1 ι)).toArray).toList = (vs.map (c1 ι)).zipIdx 0 := by simp
    rw [hz, fold_putL]
    simp [putL_map]
  | [], _ :: _, _, _, hl, _, _ => by simp at hl
  | _ :: _, [], _, _, hl, _, _ => by simp at hl
theorem partsL_run (he : ∀ x u, e x = some u → ρ x = cV ι u) : ∀ {xs : List (Nat × Operand)} {ps : List (Nat × List Value)}, partsL e xs = some ps →
    xs.length = ps.length ∧ ∀ (i : Nat) (p : Nat × List Value) (q : Nat × Value), ps[i]? = some p → (xs.map fun (i, x) => (i, ρ x))[i]? = some q → q.1 = p.1 ∧ q.2.cells = (p.2.map (c1 ι)).toArray
  | [], ps, h => by simp only [partsL, Option.some.injEq] at h; subst h; exact ⟨rfl, fun i p q h => by simp at h⟩
  | (k, x) :: xs, ps, h => by
    simp only [partsL] at h
    split at h <;> try (simp at h; done)
    rename_i v hv hnt
    split at h <;> try (simp at h; done)
    rename_i l hl
    simp only [Option.some.injEq] at h
    subst h
    obtain ⟨h1, h2⟩ := partsL_run he hl
    refine ⟨by simp [h1], fun i p q hp hq => ?_⟩
    cases i with
    | zero =>
      simp only [List.getElem?_cons_zero, Option.some.injEq, List.map_cons] at hp hq
      subst hp; subst hq
      refine ⟨rfl, ?_⟩
      simp only [he _ _ hnt]
      exact cellsL_c ι (fun vs e => by subst e; exact hv vs rfl)
    | succ i =>
      exact h2 i p q (by simpa using hp) (by simpa using hq)
end
end Go.Proofs.Ytbeblgjibfoanaa.Am
