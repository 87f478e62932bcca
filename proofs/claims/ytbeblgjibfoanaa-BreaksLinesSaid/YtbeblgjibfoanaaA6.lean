/- Rules for walking Go functions with memory told by tags (A6). -/
import Derived.Test.YtbeblgjibfoanaaA5
namespace Go.Proofs.Ytbeblgjibfoanaa.Am
set_option linter.unusedSimpArgs false
set_option linter.unusedVariables false
open Go Go.RowKit
/-- In every world: the operation leaves v, and does nothing else. -/
def Yl (P : Program) (ρ : Operand → Value) (o : Op) (v : Value) : Prop := ∀ (o' : Oper), o'.op = o → ∀ w, (execOp ρ o').run P w = .ok (.value v) w
section
variable {P : Program} {Θ : Tab} {ι : Nat → Nat} {ρ : Operand → Value} {e : Operand → Option Value}
theorem map_arr {e : Operand → Option Value} (he : ∀ x u, e x = some u → ρ x = cV ι u) {xs : Array Operand} {vs : List Value} (h : mapE e xs.toList = some vs) : xs.map ρ = (vs.map (cV ι)).toArray := by
  apply Array.ext'
  simp [mapE_run he h]
theorem Yl.bin {o : BinOp} {t t' : TypeId} {x y : Operand} {u v r : Value} (hx : ρ x = cV ι u) (hy : ρ y = cV ι v) (h : dBin o u v = some r) : Yl P ρ (.binOp o t x y t') (cV ι r) := by
  rintro ⟨dst, op, type, pos, after, guard⟩ rfl w
  simp only [execOp, hx, hy, Sem.run_bind, dBin_guard h, Result.andThen_ok, dBin_run h, Sem.run_pure]
theorem dOp_run (hT : tabOk P Θ = true) (he : ∀ x u, e x = some u → ρ x = cV ι u) {o : Op} {v : Value} (h : dOp Θ e o = some v) : Yl P ρ o (cV ι v) := by
  rintro ⟨dst, op, type, pos, after, guard⟩ rfl w
  simp only at h
  cases op <;> try (simp [dOp] at h; done)
  case move x => simp [execOp, he x v h]
  case assign x => simp [execOp, he x v h]
  case pick c a b =>
    simp only [dOp] at h
    split at h <;> try (simp at h; done)
    · rename_i hc
      simp [execOp, he _ _ hc, asBool, he _ _ h]
    · rename_i hc
      simp [execOp, he _ _ hc, asBool, he _ _ h]
  case nilCheck x =>
    simp only [dOp] at h
    split at h <;> try (simp at h; done)
    rename_i a ha
    simp only [Option.some.injEq] at h
    subst h
    simp [execOp, he _ _ ha]
  case binOp op t x y t' =>
    simp only [dOp] at h
    split at h <;> try (simp at h; done)
    rename_i u r hu hr
    exact Yl.bin (he _ _ hu) (he _ _ hr) h _ rfl w
  case unOp op t x =>
    cases op <;> simp only [dOp] at h <;> (try (simp at h; done)) <;> (split at h <;> try (simp at h; done)) <;> rename_i hx <;> simp only [Option.some.injEq] at h <;> subst h <;> simp [execOp, he _ _ hx, Op.unary, Op.intArith]
  case convert s d x =>
    simp only [dOp] at h
    split at h <;> try (simp at h; done)
    rename_i i j u hi hj hu
    obtain ⟨ds, hs, ks⟩ := (tab_ty hT hi).und
    obtain ⟨dd, hd, kd⟩ := (tab_ty hT hj).und
    unfold dConv at h
    split at h <;> try (simp at h; done)
    · rename_i hki hkj
      simp only [Option.some.injEq] at h
      subst h
      rw [hki] at ks
      rw [hkj] at kd
      cases dd <;> try (simp [kindB] at kd; done)
      simp only [kindB, beq_iff_eq] at kd
      subst kd
      simp [execOp, he _ _ hu, convert, run_underlying hs, run_underlying hd, Conv.intToInt]
    · rename_i hki hkj
      simp only [Option.some.injEq] at h
      subst h
      rw [hki] at ks
      rw [hkj] at kd
      cases dd <;> try (simp [kindB] at kd; done)
      simp [execOp, he _ _ hu, convert, run_underlying hs, run_underlying hd]
  case fieldAddr s x f =>
    simp only [dOp] at h
    split at h <;> try (simp at h; done)
    rename_i o j a hf hx
    split at h <;> try (simp at h; done)
    rename_i hj
    simp only [Option.some.injEq] at h
    subst h
    simp only [execOp, he _ _ hx, cV_ptr, Sem.run_bind, dField_addr hT hf hj, Result.andThen_ok, Sem.run_pure]
  case field s x f =>
    simp only [dOp] at h
    split at h <;> try (simp at h; done)
    rename_i o j cs hf hx
    simp only [execOp, he _ _ hx, Sem.run_bind, dField hT hf h, Result.andThen_ok, Sem.run_pure]
  case build t parts =>
    have := dBuild hT he h w
    simp only [execOp, Sem.run_bind, this, Result.andThen_ok, Sem.run_pure]
  case extract x n =>
    simp only [dOp] at h
    split at h <;> try (simp at h; done)
    rename_i vs hx
    split at h <;> try (simp at h; done)
    rename_i hnt
    simp only [execOp, he _ _ hx, cV_tuple, Instr.extract]
    have e1 : (vs.map (c2 ι))[n]? = some (cV ι v) := by
      rw [Array.getElem?_map, show vs[n]? = some v from by simpa using h]
      cases v <;> first | rfl | exact absurd h (hnt _)
    simp only [e1, Sem.run_bind, Sem.run_pure, Result.andThen_ok]
  case makeFunc fn first cap =>
    simp only [dOp] at h
    split at h <;> try (simp at h; done)
    rename_i f c hf hc
    split at h <;> try (simp at h; done)
    rename_i hs
    simp only [Option.some.injEq] at h
    subst h
    simp only [Bool.and_eq_true] at hs
    have e0 : ∀ l : List Value, l.all s0 = true → l.map (cV ι) = l.map (c0 ι) := fun l hl => List.map_congr_left fun v hv => s0_cV ι (List.all_eq_true.1 hl v hv)
    simp only [execOp, Instr.makeFunc, map_arr he hf, map_arr he hc, e0 _ hs.1, e0 _ hs.2, Sem.run_bind, Sem.run_pure, Result.andThen_ok, cV_func]
    simp
  case call c =>
    obtain ⟨callee, args, ts⟩ := c
    cases callee <;> try (simp [dOp] at h; done)
    rename_i b
    cases b <;> try (simp [dOp] at h; done)
    case len =>
      simp only [dOp] at h
      split at h <;> try (simp at h; done)
      rename_i t u ht hu
      split at h <;> try (simp at h; done)
      rename_i i hi
      obtain ⟨d, hd, hk⟩ := (tab_ty hT hi).und
      have hts : ts = #[t] := by apply Array.ext'; simpa using ht
      subst hts
      have ha := map_arr he hu
      simp only [execOp, resolve, Sem.run_bind, Sem.run_pure, Result.andThen_ok, invoke, builtin, ha, Builtin.len_]
      simp only [List.map_cons, List.map_nil]
      simp [run_underlying hd]
      unfold dLen at h
      split at h <;> try (simp at h; done)
      all_goals
        rename_i hki
        simp only [Option.some.injEq] at h
        subst h
        rw [hki] at hk
        cases d <;> try (simp [kindB] at hk; done)
      · simp [goInt]
      · rename_i a _ _ _; cases a <;> simp [goInt]
      · simp only [kindB, Bool.and_eq_true, beq_iff_eq] at hk; simp [goInt, hk.1]
    case min =>
      simp only [dOp] at h
      split at h <;> try (simp at h; done)
      rename_i hu
      simp only [Option.some.injEq] at h
      subst h
      have ha := map_arr he hu
      have hm : ∀ x y : Int, (if y < x then y else x) = min x y := fun x y => by omega
      simp [execOp, resolve, invoke, builtin, ha, Builtin.min_, Builtin.min2, hm]
    case max =>
      simp only [dOp] at h
      split at h <;> try (simp at h; done)
      rename_i hu
      simp only [Option.some.injEq] at h
      subst h
      have ha := map_arr he hu
      have hm : ∀ x y : Int, (if x < y then y else x) = max x y := fun x y => by omega
      simp [execOp, resolve, invoke, builtin, ha, Builtin.max_, Builtin.max2, hm]
end
end Go.Proofs.Ytbeblgjibfoanaa.Am
