/- Rules for walking Go functions with memory told by tags (A16). -/
import Derived.Test.YtbeblgjibfoanaaA15
namespace Go.Proofs.Ytbeblgjibfoanaa.Am
set_option linter.unusedSimpArgs false
set_option linter.unusedVariables false
open Go Go.RowKit
/-! Results. -/
def ldV (Θ : Tab) (F : Mem) (K : Own) (t : TypeId) (a : Addr) : Option Value := match Θ.lookup t with
  | some i => if aggB i.k then (match rdN F K a i.size with
    | some cs => some (.agg ⟨cs⟩)
    | none => none) else rdA F K a
  | none => none
def resE (Θ : Tab) (F : Mem) (L : Slots) (K : Own) : ResultVar → Option Value
  | .tmp t => match L.lookup t with
    | some (.tuple _) => none
    | r => r
  | .cell a t => match L.lookup a with
    | some (.pointer (some ad)) => ldV Θ F K t ad
    | _ => none
def resL (Θ : Tab) (F : Mem) (L : Slots) (K : Own) : List ResultVar → Option (List Value)
  | [] => some []
  | r :: rs => match resE Θ F L K r with
    | some v => match resL Θ F L K rs with
      | some l => some (v :: l)
      | none => none
    | none => none
def resV (Θ : Tab) (F : Mem) (L : Slots) (K : Own) (rs : List ResultVar) : Option Value := match resL Θ F L K rs with
  | some [v] => some v
  | some vs => some (.tuple ⟨vs⟩)
  | none => none
theorem ldV_run {P : Program} {Θ : Tab} (hT : tabOk P Θ = true) {F : Mem} {ι : Nat → Nat} {K : Own} {w : World} (hS : St F ι K w) {t : TypeId} {a : Addr} {v : Value} (h : ldV Θ F K t a = some v) :
    (loadVar t (cA ι a)).run P w = .ok (c2 ι v) w ∧ ∀ vs, v ≠ .tuple vs := by
  unfold ldV at h
  split at h <;> try (simp at h; done)
  rename_i i hi
  have ty := tab_ty hT hi
  split at h
  · rename_i hag
    split at h <;> try (simp at h; done)
    rename_i cs hcs
    simp only [Option.some.injEq] at h
    subst h
    obtain ⟨hl, hc⟩ := hS.rdN hcs
    have := run_loadCells_list (P := P) (w := w) (cA ι a) (cs.map (c1 ι)) hc
    rw [List.length_map, hl] at this
    refine ⟨?_, fun vs e => by cases e⟩
    simp only [loadVar, Sem.run_bind, ty.run_agg, Result.andThen_ok, hag, if_true, ty.run_size, this, Sem.run_pure, c2_agg]
    simp
  · rename_i hag
    have hag' : aggB i.k = false := by simpa using hag
    have h1 := hS.own_one h
    refine ⟨?_, fun vs e => by subst e; simp [Value.oneCell'] at h1⟩
    simp only [loadVar, Sem.run_bind, ty.run_agg, Result.andThen_ok, hag', Bool.false_eq_true, if_false, run_load, hS.rd h]
    cases v <;> first | rfl | simp [Value.oneCell'] at h1
def resS (tmps : Array Value) : ResultVar → Sem Value
  | .tmp t => pure (tmps.getD t undef)
  | .cell a t => do loadVar t (← asAddr (tmps.getD a undef))
theorem results_eq (fn : Func) (tmps : Array Value) : results fn tmps = (do let vs ← fn.results.mapM (resS tmps); pure (if h : vs.size = 1 then vs[0] else .tuple vs)) := by
  unfold results
  congr 1
theorem resL_run {P : Program} {Θ : Tab} (hT : tabOk P Θ = true) {F : Mem} {ι : Nat → Nat} {K : Own} {L : Slots} {N : Nat} {a : Act} {w : World} (hF : Fr N ι L a) (hS : St F ι K w) : ∀ {rs : List ResultVar} {vs : List Value}, resL Θ F L K rs = some vs →
    (rs.mapM (resS a.tmps)).run P w = .ok (vs.map (c2 ι)) w ∧ ∀ v ∈ vs, ∀ us, v ≠ .tuple us
  | [], vs, h => by simp only [resL, Option.some.injEq] at h; subst h; exact ⟨by simp, fun v h => by simp at h⟩
  | r :: rs, vs, h => by
    simp only [resL] at h
    split at h <;> try (simp at h; done)
    rename_i v hv
    split at h <;> try (simp at h; done)
    rename_i l hl
    simp only [Option.some.injEq] at h
    subst h
    obtain ⟨h1, h2⟩ := resL_run hT hF hS hl
    have hget : ∀ t u, L.lookup t = some u → a.tmps.getD t undef = cV ι u := fun t u hu => by simp [Array.getD_eq_getD_getElem?, hF.slot t u hu]
    cases r with
    | tmp t =>
      simp only [resE] at hv
      split at hv <;> try (simp at hv; done)
      rename_i hnt
      have hv2 : cV ι v = c2 ι v := by cases v <;> first | rfl | exact absurd hv (hnt _)
      refine ⟨?_, fun u hu => ?_⟩
      · simp only [List.mapM_cons, resS, Sem.run_bind, Sem.run_pure, Result.andThen_ok, hget t v hv, hv2, h1, List.map_cons]
      · rcases List.mem_cons.1 hu with rfl | hu
        · intro us e; subst e; exact hnt _ hv
        · exact h2 u hu
    | cell b t =>
      simp only [resE] at hv
      split at hv <;> try (simp at hv; done)
      rename_i ad had
      obtain ⟨h3, h4⟩ := ldV_run hT hS hv
      refine ⟨?_, fun u hu => ?_⟩
      · simp only [List.mapM_cons, resS, Sem.run_bind, Sem.run_pure, Result.andThen_ok, hget b _ had, cV_ptr, asAddr, h3, h1, List.map_cons]
      · rcases List.mem_cons.1 hu with rfl | hu
        · exact h4
        · exact h2 u hu
theorem resV_run {P : Program} {Θ : Tab} (hT : tabOk P Θ = true) {F : Mem} {ι : Nat → Nat} {K : Own} {L : Slots} {N : Nat} {a : Act} {w : World} (hF : Fr N ι L a) (hS : St F ι K w) {fn : Func} {v : Value} (h : resV Θ F L K fn.results.toList = some v) : (results fn a.tmps).run P w = .ok (cV ι v) w := by
  unfold resV at h
  have aux : ∀ vs, resL Θ F L K fn.results.toList = some vs → (results fn a.tmps).run P w = .ok (if h : ((vs.map (c2 ι)).toArray).size = 1 then ((vs.map (c2 ι)).toArray)[0] else .tuple (vs.map (c2 ι)).toArray) w := by
    intro vs hvs
    obtain ⟨h1, _⟩ := resL_run hT hF hS hvs
    rw [results_eq, Array.mapM_eq_mapM_toList]
    simp only [Sem.run_bind, Sem.run_map]
    simp only [h1, Result.andThen_ok, Sem.run_pure]
  split at h
  · rename_i u hu
    simp only [Option.some.injEq] at h
    subst h
    rw [aux _ hu]
    obtain ⟨_, h2⟩ := resL_run hT hF hS hu
    have hnt := h2 u (by simp)
    have : cV ι u = c2 ι u := by cases u <;> first | rfl | exact absurd rfl (hnt _)
    simp [this]
  · rename_i vs hne hvs
    simp only [Option.some.injEq] at h
    subst h
    rw [aux _ hvs]
    have hne1 : ¬ ((vs.map (c2 ι)).toArray).size = 1 := by
      intro e
      match vs, e with
      | [u], _ => exact hne u rfl
      | [], e => simp at e
      | _ :: _ :: _, e => simp at e
    rw [dif_neg hne1]
    simp [cV]
  · simp at h
/-! Calls. -/
def AC (P : Program) (D : List Nat) (f : FuncId) (args : List Value) (F : Mem) (K : Own) (Q : Value → Mem → Own → Prop) : Prop :=
  ∀ (ι : Nat → Nat) (w : World), St F ι K w → Calls P f (args.map (cV ι)).toArray w fun e w' => ∃ (ι' : Nat → Nat) (F' : Mem) (K' : Own) (v : Value), e = .returned (cV ι' v) ∧ St F' ι' K' w' ∧ (∀ t ∈ D, ι' t = ι t) ∧ Q v F' K'
theorem AC.mono {P : Program} {D : List Nat} {f : FuncId} {args : List Value} {F : Mem} {K : Own} {Q Q' : Value → Mem → Own → Prop} (h : AC P D f args F K Q) (hq : ∀ v F' K', Q v F' K' → Q' v F' K') : AC P D f args F K Q' :=
  fun ι w hS => (h ι w hS).mono fun _ _ ⟨ι', F', K', v, h1, h2, h3, h4⟩ => ⟨ι', F', K', v, h1, h2, h3, hq _ _ _ h4⟩
def argL : Nat → List Value → Slots
  | _, [] => []
  | i, v :: vs => (i, v) :: argL (i + 1) vs
theorem argL_get : ∀ {vs : List Value} {i s : Nat} {v : Value}, (argL i vs).lookup s = some v → i ≤ s ∧ vs[s - i]? = some v
  | [], _, _, _, h => by simp [argL] at h
  | u :: vs, i, s, v, h => by
    simp only [argL, List.lookup_cons] at h
    split at h
    · rename_i e
      have e1 : s = i := by simpa using e
      subst e1
      simp only [Option.some.injEq] at h
      subst h
      simp
    · rename_i e
      obtain ⟨h1, h2⟩ := argL_get h
      refine ⟨by omega, ?_⟩
      rw [show s - i = (s - (i + 1)) + 1 from by omega]
      simpa using h2
def retR (Θ : Tab) (rs : List ResultVar) (Q : Value → Mem → Own → Prop) : Exit → Pst
  | .normal, F, L, K => ∃ v, resV Θ F L K rs = some v ∧ Q v F K
  | .ret, F, L, K => ∃ v, resV Θ F L K rs = some v ∧ Q v F K
  | _, _, _, _ => False
theorem AC.enter {P : Program} {Θ : Tab} (hT : tabOk P Θ = true) {D : List Nat} {f : FuncId} {fn : Func} {c : Code} {args : List Value} {F : Mem} {K : Own} {Q : Value → Mem → Own → Prop} {n : Nat} {rs : List ResultVar} (hf : P.funcs[f]? = some fn) (hb : fn.body = some c) (hn : fn.ntmps = n) (hrs : fn.results.toList = rs) (hl : args.length ≤ n)
    (h : J ⟨P, n, D, retR Θ rs Q⟩ [.code c] F (argL 0 args) K) : AC P D f args F K Q := by
  subst hn hrs
  intro ι w hS
  refine calls_of_wp hf hb ?_
  have hFr : Fr fn.ntmps ι (argL 0 args) { tmps := (args.map (cV ι)).toArray ++ Array.replicate (fn.ntmps - (args.map (cV ι)).toArray.size) undef, defers := [] } := by
    refine ⟨by simp; omega, rfl, fun s v hv => ?_⟩
    obtain ⟨_, h2⟩ := argL_get hv
    simp only [Nat.sub_zero] at h2
    have hlt : s < args.length := (List.getElem?_eq_some_iff.1 h2).1
    rw [Array.getElem?_append_left (by simpa using hlt)]
    simp [h2]
  refine wp_mono (h ι _ w hFr hS) fun e a' w' hl => ?_
  obtain ⟨ι1, F1, L1, K1, h1, h2, h3, h4⟩ := hl
  cases e with
  | normal =>
    obtain ⟨v, hv, hQ⟩ := h4
    exact ⟨h1.defers, _, resV_run hT h1 h2 hv, ι1, F1, K1, v, rfl, h2, h3, hQ⟩
  | ret =>
    obtain ⟨v, hv, hQ⟩ := h4
    exact ⟨h1.defers, _, resV_run hT h1 h2 hv, ι1, F1, K1, v, rfl, h2, h3, hQ⟩
  | _ => exact h4.elim
end Go.Proofs.Ytbeblgjibfoanaa.Am
