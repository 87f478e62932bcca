/- Rules for walking Go functions with memory told by tags (A18). -/
import Derived.Test.YtbeblgjibfoanaaA17
namespace Go.Proofs.Ytbeblgjibfoanaa.Am
set_option linter.unusedSimpArgs false
set_option linter.unusedVariables false
open Go Go.RowKit
/-- fewer rows are told -/
theorem St.sub {F : Mem} {Y X : List (Nat × Row)} {ι κ : Nat → Nat} {K : Own} {w : World} (h : St (F.add Y) ι K w) (hX : ∀ x ∈ X, x ∈ (K.map fun x => (ι x.1, x.2.r ι)) ++ Y) (hn : (X.map Prod.fst).Nodup) : St (F.add X) κ [] w := by
  have hnd := h.nodup
  simp only [Mem.add, List.map_append] at hnd
  rw [← List.append_assoc] at hnd
  obtain ⟨h1, h2, h3⟩ := List.nodup_append.1 hnd
  refine ⟨h.below, ?_, fun x hx => by simp at hx, fun x hx => ?_⟩
  · simp only [List.map_nil, List.nil_append, Mem.add, List.map_append]
    refine List.nodup_append.2 ⟨hn, h2, fun a ha b hb => h3 a ?_ b hb⟩
    obtain ⟨x, hx, rfl⟩ := List.mem_map.1 ha
    rcases List.mem_append.1 (hX x hx) with hq | hq
    · obtain ⟨y, hy, rfl⟩ := List.mem_map.1 hq
      exact List.mem_append_left _ (List.mem_map.2 ⟨y, hy, rfl⟩)
    · exact List.mem_append_right _ (List.mem_map.2 ⟨x, hq, rfl⟩)
  · rcases List.mem_append.1 hx with hx | hx
    · rcases List.mem_append.1 (hX x hx) with hq | hq
      · obtain ⟨y, hy, rfl⟩ := List.mem_map.1 hq
        exact ⟨(h.own y hy).1, by rw [Row.c_r]; exact (h.own y hy).2.1⟩
      · exact h.ext x (List.mem_append_left _ hq)
    · exact h.ext x (List.mem_append_right _ hx)
theorem St.cells {F : Mem} {ι : Nat → Nat} {K : Own} {w : World} (h : St F ι K w) {x : Nat × Row} (hx : x ∈ K.map fun x => (ι x.1, x.2.r ι)) : ∀ u ∈ x.2.cs, plain1 u = true := by
  obtain ⟨y, hy, rfl⟩ := List.mem_map.1 hx
  intro u hu
  simp only [Row.r] at hu
  obtain ⟨v, hv, rfl⟩ := List.mem_map.1 hu
  exact plain1_r1 ι ((h.val.own y hy).2 v hv)
/-- what is left of the call's memory to its caller -/
def outX (F : Mem) (Q : Value → List (Nat × Row) → Prop) (v : Value) (F' : Mem) (K' : Own) : Prop :=
  ∃ Y, F' = F.add Y ∧ (∀ x ∈ Y, ∀ u ∈ x.2.cs, plain1 u = true) ∧ ∀ ι, Val ι K' F' → ∃ X, (∀ x ∈ X, x ∈ (K'.map fun x => (ι x.1, x.2.r ι)) ++ Y) ∧ (X.map Prod.fst).Nodup ∧ Q (rV ι v) X
theorem outX.plain {F : Mem} {Q : Value → List (Nat × Row) → Prop} {v : Value} {K' : Own} (hv : ∀ κ, rV κ v = v) (h : Q v []) : outX F Q v F K' :=
  ⟨[], rfl, fun x hx => by simp at hx, fun ι _ => ⟨[], fun x hx => by simp at hx, by simp, by rw [hv]; exact h⟩⟩
theorem C.enter {P : Program} {Θ : Tab} (hT : tabOk P Θ = true) {f : FuncId} {fn : Func} {c : Code} {args : List Value} {F : Mem} {Q : Value → List (Nat × Row) → Prop} {n : Nat} {rs : List ResultVar} (hf : P.funcs[f]? = some fn) (hb : fn.body = some c) (hn : fn.ntmps = n) (hrs : fn.results.toList = rs) (hl : args.length ≤ n)
    (h : J ⟨P, n, [], retR Θ rs (outX F Q)⟩ [.code c] F (argL 0 args) []) : C P f args F Q := by
  intro ι w hS
  have := AC.enter hT hf hb hn hrs hl h ι w hS
  refine this.mono fun e w' ⟨ι', F', K', v, h1, h2, _, Y, h4, h5, h6⟩ => ?_
  subst h4
  obtain ⟨X, g1, g2, g3⟩ := h6 ι' h2.val
  refine ⟨rV ι' v, X, by rw [cV_rV]; exact h1, fun κ => rV_rV ι' κ v, fun x hx => ?_, h2.sub g1 g2, g3⟩
  rcases List.mem_append.1 (g1 x hx) with hq | hq
  · exact h2.cells hq
  · exact h5 x hq
def fnOk (P : Program) (f : FuncId) : Bool := match P.funcs[f]? with
  | some fn => !(fn.name == "runtime.NumGoroutine") && !fn.body.isNone
  | none => false
theorem fnOk_run {P : Program} {f : FuncId} (h : fnOk P f = true) (args : Array Value) (w : World) : (callFunc f args).run P w = .ok (.enter f args) w := by
  unfold fnOk at h
  cases hf : P.funcs[f]? with
  | none => simp [hf] at h
  | some fn =>
    simp only [hf, Bool.and_eq_true, Bool.not_eq_true'] at h
    have h1 : ¬ fn.name = "runtime.NumGoroutine" := by simpa using h.1
    have h2 : ¬ fn.body = none := by have := h.2; intro e; simp [e] at this
    simp [callFunc, hf, h1, h2]
/-- every tag is one of these -/
def tg0 (D : List Nat) : Value → Bool
  | .pointer (some a) => match a.spot with
    | some 0 => D.contains a.block
    | _ => true
  | .slice (some a) _ _ => match a.spot with
    | some 0 => D.contains a.block
    | _ => true
  | _ => true
def tg1 (D : List Nat) : Value → Bool
  | .func _ f c => f.toList.all (tg0 D) && c.toList.all (tg0 D)
  | v => tg0 D v
def tg2 (D : List Nat) : Value → Bool
  | .agg cs => cs.toList.all (tg1 D)
  | v => tg1 D v
def tgV (D : List Nat) : Value → Bool
  | .tuple vs => vs.toList.all (tg2 D)
  | v => tg2 D v
section
variable {ι κ : Nat → Nat} {D : List Nat} (hk : ∀ u ∈ D, κ u = ι u)
include hk
theorem cA_tg {a : Addr} (h : (match a.spot with | some 0 => D.contains a.block | _ => true) = true) : cA κ a = cA ι a := by
  obtain ⟨b, o, s⟩ := a
  rcases s with _ | _ | s
  · rfl
  · simp only [cA, hk _ (show b ∈ D by simpa using h)]
  · rfl
theorem c0_tg {v : Value} (h : tg0 D v = true) : c0 κ v = c0 ι v := by
  cases v with
  | pointer a => cases a with
    | none => rfl
    | some a => simp only [c0, cA_tg hk h]
  | slice a n c => cases a with
    | none => rfl
    | some a => simp only [c0, cA_tg hk h]
  | _ => rfl
theorem c1_tg {v : Value} (h : tg1 D v = true) : c1 κ v = c1 ι v := by
  cases v with
  | func fn x y =>
    simp only [tg1, Bool.and_eq_true] at h
    simp only [c1_func, map_nt (fun v => c0_tg hk) h.1, map_nt (fun v => c0_tg hk) h.2]
  | pointer a => exact c0_tg hk (by simpa only [tg1] using h)
  | slice a n c => exact c0_tg hk (by simpa only [tg1] using h)
  | _ => rfl
theorem c2_tg {v : Value} (h : tg2 D v = true) : c2 κ v = c2 ι v := by
  cases v with
  | agg cs => simp only [c2_agg, map_nt (fun v => c1_tg hk) (show cs.toList.all (tg1 D) = true from h)]
  | _ => exact c1_tg hk (by simpa only [tg2] using h)
theorem cV_tg {v : Value} (h : tgV D v = true) : cV κ v = cV ι v := by
  cases v with
  | tuple vs => simp only [cV_tuple, map_nt (fun v => c2_tg hk) (show vs.toList.all (tg2 D) = true from h)]
  | _ => exact c2_tg hk (by simpa only [tgV] using h)
end
section
variable {X : Cx} {F : Mem} {L : Slots} {K : Own} {s : List SI}
theorem callee_run {P : Program} {ι : Nat → Nat} {ρ : Operand → Value} {e : Operand → Option Value} (he : ∀ x u, e x = some u → ρ x = cV ι u) {o : Oper} {cal : Operand} {args : Array Operand} {ts : Array TypeId} {f : FuncId} {fst cap : Array Value} {vs : List Value} (ho : o.op = .call ⟨.value cal, args, ts⟩)
    (hcal : e cal = some (.func (.func f) fst cap)) (hs : (fst.toList.all s0 && cap.toList.all s0) = true) (hargs : mapE e args.toList = some vs) (hfn : fnOk P f = true) (w : World) :
    (execOp ρ o).run P w = .ok (.enter f ((fst.toList ++ vs ++ cap.toList).map (cV ι)).toArray) w := by
  obtain ⟨dst, op, type, pos, after, guard⟩ := o
  simp only at ho
  subst ho
  simp only [Bool.and_eq_true] at hs
  have e0 : ∀ l : Array Value, l.toList.all s0 = true → l.map (c0 ι) = (l.toList.map (cV ι)).toArray := fun l hl => by
    apply Array.ext'
    simp only [Array.toList_map]
    exact List.map_congr_left fun v hv => (s0_cV ι (List.all_eq_true.1 hl v hv)).symm
  simp only [execOp, resolve, he _ _ hcal, cV_func, Deferred.ofValue, Sem.run_bind, Sem.run_pure, Result.andThen_ok, invoke, map_arr he hargs, e0 _ hs.1, e0 _ hs.2]
  rw [fnOk_run hfn]
  simp
/-- a call -/
theorem JL.call {ops : Array Oper} {o : Oper} {l : List Oper} {cal : Operand} {args : Array Operand} {ts : Array TypeId} {f d : Nat} {fst cap : Array Value} {vs : List Value} {D : List Nat} (hg : o.guard = none) (ho : o.op = .call ⟨.value cal, args, ts⟩) (hd : o.dst = some d ∨ o.dst = none) (hN : d < X.N)
    (hcal : evO L cal = some (.func (.func f) fst cap)) (hs : (fst.toList.all s0 && cap.toList.all s0) = true) (hargs : mapE (evO L) args.toList = some vs) (hfn : fnOk X.P f = true) (htg : (L.all fun x => tgV D x.2) = true) (hD : (X.D.all fun t => D.contains t) = true)
    (h : AC X.P D f (fst.toList ++ vs ++ cap.toList) F K (fun v F' K' => JL X ops l s F' (if o.dst = none then L else (d, v) :: L) K')) : JL X ops (o :: l) s F L K := by
  intro ι a w hF hS
  refine wpList_plain hg fun Kc hK => ?_
  simp only [Oper.wp, callee_run (e := evO L) (fun x u hu => hF.ev hu) ho hcal hs hargs hfn w, Oper.upon]
  refine (h ι w hS).mono fun e w' ⟨ι', F', K', v, h1, h2, h3, h4⟩ => ?_
  subst h1
  have hF' : Fr X.N ι' L a := ⟨hF.size, hF.defers, fun s v hv => by rw [cV_tg h3 (List.all_eq_true.1 htg _ (lookup_mem hv))]; exact hF.slot s v hv⟩
  refine hK _ _ (JL.tr (ι1 := ι') (fun t ht => h3 t (by simpa using List.all_eq_true.1 hD t ht)) (h4 ι' _ w' ?_ h2))
  rcases hd with hd | hd
  · rw [hd]; simp only [reduceCtorEq, if_false]; exact hF'.put hN v
  · rw [hd]; simp only [if_true]; exact hF'.putNone _
/-- a call of a function that is told for whoever calls it -/
theorem JL.callC {ops : Array Oper} {o : Oper} {l : List Oper} {f d : Nat} {args : Array Operand} {ts : Array TypeId} {vs : List Value} {Q : Value → List (Nat × Row) → Prop} (hg : o.guard = none) (ho : o.op = .call ⟨.value (.func f), args, ts⟩) (hd : o.dst = some d) (hN : d < X.N)
    (hargs : mapE (evO L) args.toList = some vs) (hfn : fnOk X.P f = true) (h : ∀ ι, Val ι K F → F.le (push ι K F) → C X.P f (vs.map (rV ι)) (push ι K F) Q)
    (hk : ∀ v Y, Q v Y → (∀ κ, rV κ v = v) → (∀ x ∈ Y, ∀ u ∈ x.2.cs, plain1 u = true) → New F Y → JL X ops l s (F.add Y) ((d, v) :: L) K) : JL X ops (o :: l) s F L K := by
  intro ι a w hF hS
  refine wpList_plain hg fun Kc hK => ?_
  simp only [Oper.wp, callee_run (e := evO L) (fun x u hu => hF.ev hu) ho rfl rfl hargs hfn w, Oper.upon]
  have hc := h ι hS.val hS.val.le ι w (hS.push ι)
  rw [map_cV_rV] at hc
  simp only [List.nil_append, List.append_nil]
  refine hc.mono fun e w' ⟨v, Y, h1, h2, h5, h3, h4⟩ => ?_
  subst h1
  have hS' := hS.pull h3
  refine hK _ _ ?_
  rw [hd]
  have := hF.put hN v
  exact hk v Y h4 h2 h5 (hS'.new_ h5) ι _ w' this hS'
/-- the same, behind a guard that lets it run -/
theorem JL.callCG {ops : Array Oper} {o : Oper} {l : List Oper} {f d j e : Nat} {want : Bool} {args : Array Operand} {ts : Array TypeId} {vs : List Value} {Q : Value → List (Nat × Row) → Prop} (hg : o.guard = some (j, want)) (hj : (ops[j]?).bind (·.dst) = some e) (hb : L.lookup e = some (.bool want)) (ho : o.op = .call ⟨.value (.func f), args, ts⟩) (hd : o.dst = some d) (hN : d < X.N)
    (hargs : mapE (evO L) args.toList = some vs) (hfn : fnOk X.P f = true) (h : ∀ ι, Val ι K F → F.le (push ι K F) → C X.P f (vs.map (rV ι)) (push ι K F) Q)
    (hk : ∀ v Y, Q v Y → (∀ κ, rV κ v = v) → (∀ x ∈ Y, ∀ u ∈ x.2.cs, plain1 u = true) → New F Y → JL X ops l s (F.add Y) ((d, v) :: L) K) : JL X ops (o :: l) s F L K := by
  intro ι a w hF hS
  unfold wpList
  rw [if_pos (by rw [JL.wanted hF hg hj hb]; simp)]
  left
  simp only [Oper.wp, callee_run (e := evO L) (fun x u hu => hF.ev hu) ho rfl rfl hargs hfn w, Oper.upon]
  have hc := h ι hS.val hS.val.le ι w (hS.push ι)
  rw [map_cV_rV] at hc
  simp only [List.nil_append, List.append_nil]
  refine hc.mono fun e w' ⟨v, Y, h1, h2, h5, h3, h4⟩ => ?_
  subst h1
  have hS' := hS.pull h3
  rw [hd]
  have := hF.put hN v
  exact hk v Y h4 h2 h5 (hS'.new_ h5) ι _ w' this hS'
/-- a row that a callee left becomes the call's own -/
theorem JL.adopt {ops : Array Oper} {l : List Oper} {d t g o n c : Nat} {r : Row} {Y : List (Nat × Row)} (hd : L.lookup d = some (.slice (some ⟨g, o, none⟩) n c)) (hr : ∀ u ∈ r.cs, plain1 u = true) (hL : ntL t L = true) (hK : ntK t K = true) (hD : X.D.contains t = false)
    (h : JL X ops l s (F.add Y) ((d, .slice (some ⟨t, o, some 0⟩) n c) :: L) ((t, { r with flat := true }) :: K)) : JL X ops l s (F.add ((g, r) :: Y)) L K := by
  intro ι a w hF hS
  have hx := hS.ext (g, r) (by simp [Mem.add])
  have hnd := hS.nodup
  simp only [Mem.add, List.cons_append, List.map_cons] at hnd
  have hagree : ∀ u ∈ X.D, upd ι t g u = ι u := fun u hu => upd_ne ι (fun e => by subst e; simp at hD; exact hD hu)
  have hmap : (K.map fun x => upd ι t g x.1) = K.map fun x => ι x.1 := List.map_congr_left fun x hx => upd_ne ι (hS.rowc (b := 0) hK hx).1
  refine JL.tr hagree (h (upd ι t g) a w ?_ ⟨hS.below, ?_, fun x hx2 => ?_, fun x hx2 => hS.ext x (by simp only [Mem.add] at hx2 ⊢; exact List.mem_cons_of_mem _ hx2)⟩)
  · have h1 := hF.nt (fun u hu => upd_ne ι (t := t) (b := g) hu) hL
    refine ⟨h1.size, h1.defers, fun s v hv => ?_⟩
    rw [List.lookup_cons] at hv
    split at hv
    · rename_i e
      have e1 : s = d := by simpa using e
      subst e1
      simp only [Option.some.injEq] at hv
      subst hv
      have := h1.slot s _ hd
      simpa [upd_eq] using this
    · exact h1.slot s v hv
  · simp only [List.map_cons, List.cons_append, hmap, upd_eq, Mem.add, List.map_append] at hnd ⊢
    refine (List.Perm.nodup_iff ?_).1 hnd
    exact List.perm_middle
  · rcases List.mem_cons.1 hx2 with rfl | hx2
    · simp only [upd_eq]
      have e : ({ r with flat := true } : Row).c (upd ι t g) = { r.c (fun _ => 0) with flat := true } := by
        unfold Row.c
        have : r.cs.map (c1 (upd ι t g)) = r.cs.map (c1 fun _ => 0) := List.map_congr_left fun u hu => c1_plain _ _ (hr u hu)
        simp [this]
      refine ⟨hx.1, ?_, fun _ => hr⟩
      rw [e]
      exact hx.2
    · obtain ⟨h1, h2⟩ := hS.rowc (b := g) hK hx2
      obtain ⟨h3, h4, h5⟩ := hS.own x hx2
      rw [upd_ne ι h1, h2]
      exact ⟨h3, h4, h5⟩
end
end Go.Proofs.Ytbeblgjibfoanaa.Am
