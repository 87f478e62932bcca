/- Rules for walking Go functions, and contracts proved by them (B6, B5, V5, V12, P4). -/
import Derived.Test.YtbeblgjibfoanaaZ4
namespace Go.Proofs.Ytbeblgjibfoanaa.Am
set_option linter.unusedSimpArgs false
set_option linter.unusedVariables false
open Go Go.RowKit
/-! Calls of functions that write what they are given. Tags of a set T0 stay what they are; rows of tags of T are known behind the call. -/
def rAx (T : List Nat) (ι : Nat → Nat) (a : Addr) : Addr := match a.spot with
  | some 0 => if T.contains a.block then a else ⟨ι a.block, a.off, none⟩
  | _ => a
def r0x (T : List Nat) (ι : Nat → Nat) : Value → Value
  | .pointer (some a) => .pointer (some (rAx T ι a))
  | .slice (some a) n c => .slice (some (rAx T ι a)) n c
  | v => v
def r1x (T : List Nat) (ι : Nat → Nat) : Value → Value
  | .func fn first cap => .func fn ⟨first.toList.map (r0x T ι)⟩ ⟨cap.toList.map (r0x T ι)⟩
  | v => r0x T ι v
def r2x (T : List Nat) (ι : Nat → Nat) : Value → Value
  | .agg cs => .agg ⟨cs.toList.map (r1x T ι)⟩
  | v => r1x T ι v
def rVx (T : List Nat) (ι : Nat → Nat) : Value → Value
  | .tuple vs => .tuple ⟨vs.toList.map (r2x T ι)⟩
  | v => r2x T ι v
section
variable {T : List Nat} {ι : Nat → Nat}
theorem cA_rAx (a : Addr) : cA ι (rAx T ι a) = cA ι a := by
  obtain ⟨b, o, s⟩ := a
  rcases s with _ | _ | s
  · rfl
  · simp only [rAx]
    split <;> rfl
  · rfl
theorem c0_r0x (v : Value) : c0 ι (r0x T ι v) = c0 ι v := by
  cases v with
  | pointer a => cases a with
    | none => rfl
    | some a => simp only [c0, r0x, cA_rAx]
  | slice a n c => cases a with
    | none => rfl
    | some a => simp only [c0, r0x, cA_rAx]
  | _ => rfl
theorem c1_r1x (v : Value) : c1 ι (r1x T ι v) = c1 ι v := by
  cases v with
  | func fn x y =>
    have aux : ∀ l : List Value, (l.map (r0x T ι)).map (c0 ι) = l.map (c0 ι) := fun l => by
      rw [List.map_map]
      exact List.map_congr_left fun v _ => c0_r0x v
    simp only [r1x, c1, aux]
  | pointer a => cases a with
    | none => rfl
    | some a => exact c0_r0x (.pointer (some a))
  | slice a n c => cases a with
    | none => rfl
    | some a => exact c0_r0x (.slice (some a) n c)
  | _ => rfl
theorem c2_r2x (v : Value) : c2 ι (r2x T ι v) = c2 ι v := by
  cases v with
  | agg cs =>
    have aux : ∀ l : List Value, (l.map (r1x T ι)).map (c1 ι) = l.map (c1 ι) := fun l => by
      rw [List.map_map]
      exact List.map_congr_left fun v _ => c1_r1x v
    simp only [r2x, c2, aux]
  | func fn x y => exact c1_r1x (.func fn x y)
  | pointer a => cases a with
    | none => rfl
    | some a => exact c1_r1x (.pointer (some a))
  | slice a n c => cases a with
    | none => rfl
    | some a => exact c1_r1x (.slice (some a) n c)
  | _ => rfl
theorem cV_rVx (v : Value) : cV ι (rVx T ι v) = cV ι v := by
  cases v with
  | tuple vs =>
    have aux : ∀ l : List Value, (l.map (r2x T ι)).map (c2 ι) = l.map (c2 ι) := fun l => by
      rw [List.map_map]
      exact List.map_congr_left fun v _ => c2_r2x v
    simp only [rVx, cV, aux]
  | agg cs => exact c2_r2x (.agg cs)
  | func fn x y => exact c2_r2x (.func fn x y)
  | pointer a => cases a with
    | none => rfl
    | some a => exact c2_r2x (.pointer (some a))
  | slice a n c => cases a with
    | none => rfl
    | some a => exact c2_r2x (.slice (some a) n c)
  | _ => rfl
theorem map_cV_rVx (vs : List Value) : (vs.map (rVx T ι)).map (cV ι) = vs.map (cV ι) := by
  rw [List.map_map]
  exact List.map_congr_left fun v _ => cV_rVx v
end
def CA (P : Program) (T0 T : List Nat) (f : FuncId) (args : List Value) (F : Mem) (K : Own) (Q : Value → List (Nat × Row) → Own → Prop) : Prop :=
  ∀ (ι : Nat → Nat) (w : World), St F ι K w → Calls P f (args.map (cV ι)).toArray w fun e w' => ∃ (ι' : Nat → Nat) (v : Value) (Y : List (Nat × Row)) (K' : Own), e = .returned (cV ι' v) ∧ (∀ t ∈ T0, ι' t = ι t) ∧ tgK T K' = true ∧ tgV T v = true ∧ PlainRows Y ∧ St (F.add Y) ι' K' w' ∧ Q v Y K'
theorem CA.mono {P : Program} {T0 T : List Nat} {f : FuncId} {args : List Value} {F : Mem} {K : Own} {Q Q' : Value → List (Nat × Row) → Own → Prop} (h : CA P T0 T f args F K Q) (hq : ∀ v Y K', Q v Y K' → Q' v Y K') : CA P T0 T f args F K Q' :=
  fun ι w hS => (h ι w hS).mono fun _ _ ⟨ι', v, Y, K', h1, h2, h3, h4, h5, h6, h7⟩ => ⟨ι', v, Y, K', h1, h2, h3, h4, h5, h6, hq _ _ _ h7⟩
/-- what is left behind such a call -/
def outA (F : Mem) (T : List Nat) (Q : Value → List (Nat × Row) → Own → Prop) (v : Value) (F' : Mem) (K' : Own) : Prop :=
  ∃ Y K1, F' = F.add Y ∧ PlainRows Y ∧ KSub K1 K' ∧ tgK T K1 = true ∧ tgV T v = true ∧ Q v Y K1
theorem CA.enter {P : Program} {Θ : Tab} (hT : tabOk P Θ = true) {T0 T : List Nat} {f : FuncId} {fn : Func} {c : Code} {args : List Value} {F : Mem} {K : Own} {Q : Value → List (Nat × Row) → Own → Prop} {n : Nat} {rs : List ResultVar} (hf : P.funcs[f]? = some fn) (hb : fn.body = some c) (hn : fn.ntmps = n) (hrs : fn.results.toList = rs) (hl : args.length ≤ n)
    (h : J ⟨P, n, T0, retR Θ rs (outA F T Q)⟩ [.code c] F (argL 0 args) K) : CA P T0 T f args F K Q := by
  intro ι w hS
  have := AC.enter hT hf hb hn hrs hl h ι w hS
  refine this.mono fun e w' ⟨ι', F', K', v, h1, h2, h3, Y, K1, h4, h5, h6, h7, h8, h9⟩ => ?_
  subst h4
  exact ⟨ι', v, Y, K1, h1, h3, h7, h8, h5, h2.weak h6, h9⟩
theorem CA.go {P : Program} {Θ : Tab} {T0 T : List Nat} {f : FuncId} {fn : Func} {c : Code} {args : List Value} {F : Mem} {K : Own} {Q : Value → List (Nat × Row) → Own → Prop} {n : Nat} {rs : List ResultVar} (hT : tabOk P Θ = true) (hf : P.funcs[f]? = some fn) (hn : fn.ntmps = n)
    (h : J ⟨P, n, T0, retR Θ rs (outA F T Q)⟩ [.code c] F (argL 0 args) K) (hb : fn.body = some c := by rfl) (hrs : fn.results.toList = rs := by rfl) (hl : args.length ≤ n := by exact Nat.le_of_ble_eq_true rfl) : CA P T0 T f args F K Q := CA.enter hT hf hb hn hrs hl h
section
variable {F F0 : Mem} {L : Slots} {K : Own} {s : List SI}
/-- the end of such a function -/
theorem outA.mk {T : List Nat} {Q : Value → List (Nat × Row) → Own → Prop} {v : Value} {Y : List (Nat × Row)} (K1 : Own) (hp : PlainRows Y) (hK : KSub K1 K) (h1 : tgK T K1 = true) (h2 : tgV T v = true) (hq : Q v Y K1) : outA F T Q v (F.add Y) K := ⟨Y, K1, rfl, hp, hK, h1, h2, hq⟩
theorem Mem.add_nil (F : Mem) : F.add [] = F := rfl
theorem rtA {Θ : Tab} {rs : List ResultVar} {T : List Nat} {Q : Value → List (Nat × Row) → Own → Prop} {v : Value} {P : Program} {N : Nat} {D : List Nat} (K1 : Own) (hq : Q v [] K1) (hr : resV Θ F L K rs = some v := by rfl) (hK : KSub K1 K := by repeat' first | exact trivial | refine And.intro rfl ?_) (h1 : tgK T K1 = true := by rfl) (h2 : tgV T v = true := by rfl) : J ⟨P, N, D, retR Θ rs (outA F T Q)⟩ (.code .ret :: s) F L K :=
  J.ret ⟨v, hr, [], K1, rfl, fun x hx => by (cases hx), hK, h1, h2, hq⟩
theorem reA {Θ : Tab} {rs : List ResultVar} {T : List Nat} {Q : Value → List (Nat × Row) → Own → Prop} {v : Value} {P : Program} {N : Nat} {D : List Nat} (K1 : Own) (hq : Q v [] K1) (hr : resV Θ F L K rs = some v := by rfl) (hK : KSub K1 K := by repeat' first | exact trivial | refine And.intro rfl ?_) (h1 : tgK T K1 = true := by rfl) (h2 : tgV T v = true := by rfl) : J ⟨P, N, D, retR Θ rs (outA F T Q)⟩ [] F L K :=
  J.fin ⟨v, hr, [], K1, rfl, fun x hx => by (cases hx), hK, h1, h2, hq⟩
theorem rtAY {Θ : Tab} {rs : List ResultVar} {T : List Nat} {Q : Value → List (Nat × Row) → Own → Prop} {v : Value} {P : Program} {N : Nat} {D : List Nat} {Y : List (Nat × Row)} (K1 : Own) (hp : PlainRows Y) (hq : Q v Y K1) (hr : resV Θ (F.add Y) L K rs = some v := by rfl) (hK : KSub K1 K := by repeat' first | exact trivial | refine And.intro rfl ?_) (h1 : tgK T K1 = true := by rfl) (h2 : tgV T v = true := by rfl) : J ⟨P, N, D, retR Θ rs (outA F T Q)⟩ (.code .ret :: s) (F.add Y) L K :=
  J.ret ⟨v, hr, Y, K1, rfl, hp, hK, h1, h2, hq⟩
theorem reAY {Θ : Tab} {rs : List ResultVar} {T : List Nat} {Q : Value → List (Nat × Row) → Own → Prop} {v : Value} {P : Program} {N : Nat} {D : List Nat} {Y : List (Nat × Row)} (K1 : Own) (hp : PlainRows Y) (hq : Q v Y K1) (hr : resV Θ (F.add Y) L K rs = some v := by rfl) (hK : KSub K1 K := by repeat' first | exact trivial | refine And.intro rfl ?_) (h1 : tgK T K1 = true := by rfl) (h2 : tgV T v = true := by rfl) : J ⟨P, N, D, retR Θ rs (outA F T Q)⟩ [] (F.add Y) L K :=
  J.fin ⟨v, hr, Y, K1, rfl, hp, hK, h1, h2, hq⟩
end
/-- some of the rows are told as the world's -/
theorem St.pushOn {ι : Nat → Nat} {K1 K2 : Own} {F : Mem} {w : World} (h : St F ι (K1 ++ K2) w) : St (Am.push ι K2 F) ι K1 w := by
  refine ⟨h.below, ?_, fun x hx => h.own x (List.mem_append_left _ hx), fun x hx => ?_⟩
  · have := h.nodup
    simpa [Am.push, Function.comp_def] using this
  · rcases List.mem_append.1 hx with hx | hx
    · obtain ⟨y, hy, rfl⟩ := List.mem_map.1 hx
      have := h.own y (List.mem_append_right _ hy)
      exact ⟨this.1, by rw [Row.c_r]; exact this.2.1⟩
    · exact h.ext x hx
theorem row_tg {ι κ : Nat → Nat} {D : List Nat} (hk : ∀ u ∈ D, κ u = ι u) {x : Nat × Row} (h : (D.contains x.1 && (x.2.flat || x.2.cs.all (tg1 D))) = true) (hf : x.2.flat = true → ∀ v ∈ x.2.cs, plain1 v = true) : κ x.1 = ι x.1 ∧ x.2.c κ = x.2.c ι := by
  simp only [Bool.and_eq_true, Bool.or_eq_true] at h
  refine ⟨hk _ (by simpa using h.1), ?_⟩
  rcases h.2 with h2 | h2
  · exact Row.c_flat _ _ (hf h2)
  · simp only [Row.c]
    congr 1
    exact List.map_congr_left fun v hv => c1_tg hk (List.all_eq_true.1 h2 v hv)
theorem St.pullOn {ι ι' κ : Nat → Nat} {K1 K2 K' : Own} {F : Mem} {Y : List (Nat × Row)} {w w' : World} {T D : List Nat} (h : St F ι (K1 ++ K2) w) (h' : St ((Am.push ι K2 F).add Y) ι' K' w') (hT : ∀ u ∈ T, κ u = ι' u) (hD : ∀ u ∈ D, κ u = ι u) (h1 : tgK T K' = true) (h2 : tgK D K2 = true) : St (F.add Y) κ (K' ++ K2) w' := by
  have e1 : ∀ x ∈ K', κ x.1 = ι' x.1 ∧ x.2.c κ = x.2.c ι' := fun x hx => row_tg hT (List.all_eq_true.1 h1 x hx) (h'.own x hx).2.2
  have e2 : ∀ x ∈ K2, κ x.1 = ι x.1 ∧ x.2.c κ = x.2.c ι := fun x hx => row_tg hD (List.all_eq_true.1 h2 x hx) (h.own x (List.mem_append_right _ hx)).2.2
  refine ⟨h'.below, ?_, fun x hx => ?_, fun x hx => ?_⟩
  · have hn := h'.nodup
    have m1 : (K'.map fun x => κ x.1) = K'.map fun x => ι' x.1 := List.map_congr_left fun x hx => (e1 x hx).1
    have m2 : (K2.map fun x => κ x.1) = K2.map fun x => ι x.1 := List.map_congr_left fun x hx => (e2 x hx).1
    simp only [Mem.add, Am.push, List.map_append, List.map_map, Function.comp_def, m1, m2] at hn ⊢
    refine (List.Perm.nodup_iff ?_).1 hn
    rw [List.append_assoc]
    refine List.Perm.append_left _ ?_
    rw [← List.append_assoc, ← List.append_assoc]
    exact List.Perm.append_right _ List.perm_append_comm
  · rcases List.mem_append.1 hx with hx | hx
    · obtain ⟨a1, a2⟩ := e1 x hx
      have := h'.own x hx
      rw [a1, a2]
      exact this
    · obtain ⟨a1, a2⟩ := e2 x hx
      have g := h'.ext (ι x.1, x.2.r ι) (List.mem_append_right _ (List.mem_append_left _ (List.mem_map.2 ⟨x, hx, rfl⟩)))
      rw [a1, a2]
      exact ⟨g.1, by have g2 := g.2; rwa [Row.c_r] at g2, (h.own x (List.mem_append_right _ hx)).2.2⟩
  · refine h'.ext x ?_
    rcases List.mem_append.1 hx with hx | hx
    · exact List.mem_append_left _ hx
    · exact List.mem_append_right _ (List.mem_append_right _ hx)
/-- what a caller knows behind such a call -/
theorem CA.frame {P : Program} {T0 T D : List Nat} {f : FuncId} {args : List Value} {F : Mem} {K K1 K2 : Own} {Q : Value → List (Nat × Row) → Own → Prop} (hK : KSub (K1 ++ K2) K) (hDT : (D.all fun t => !T.contains t || T0.contains t) = true) (hK2 : tgK D K2 = true)
    (h : ∀ ι, Val ι K2 F → F.le (push ι K2 F) → CA P T0 T f (args.map (rVx T0 ι)) (push ι K2 F) K1 Q) :
    AC P D f args F K (fun v F' K'' => ∃ Y K', F' = F.add Y ∧ K'' = K' ++ K2 ∧ PlainRows Y ∧ New F Y ∧ Q v Y K') := by
  intro ι w hS0
  have hS := hS0.weak hK
  have hS2 : St F ι K2 w := by
    have hnd := List.nodup_append.1 hS.nodup
    rw [List.map_append] at hnd
    refine ⟨hS.below, List.nodup_append.2 ⟨(List.nodup_append.1 hnd.1).2.1, hnd.2.1, fun a ha b hb => hnd.2.2 a (List.mem_append_right _ ha) b hb⟩, fun x hx => hS.own x (List.mem_append_right _ hx), hS.ext⟩
  have hc := h ι hS2.val hS2.val.le ι w hS.pushOn
  rw [map_cV_rVx] at hc
  refine hc.mono fun e w' ⟨ι', v, Y, K', h1, h2, h3, h4, h5, h6, h7⟩ => ?_
  have hT : ∀ u ∈ T, (fun t => if T.contains t then ι' t else ι t) u = ι' u := fun u hu => by
    have : T.contains u = true := by simpa using hu
    simp only [this, if_true]
  have hD : ∀ u ∈ D, (fun t => if T.contains t then ι' t else ι t) u = ι u := fun u hu => by
    have := List.all_eq_true.1 hDT u hu
    simp only [Bool.or_eq_true, Bool.not_eq_true'] at this
    rcases this with hc | hc
    · simp only [hc, Bool.false_eq_true, if_false]
    · by_cases ht : T.contains u = true
      · simp only [ht, if_true]; exact h2 u (by simpa using hc)
      · simp only [ht, Bool.false_eq_true, if_false]
  have hP := hS.pullOn h6 hT hD h3 hK2
  refine ⟨fun t => if T.contains t then ι' t else ι t, F.add Y, K' ++ K2, v, ?_, hP, hD, Y, K', rfl, rfl, h5, hP.new_ h5, h7⟩
  rw [h1, cV_tg hT h4]
section
variable {X : Cx} {F F0 : Mem} {L : Slots} {K K0 : Own} {s : List SI} {ops : Array Oper} {o : Oper} {l : List Oper}
theorem clA {f d : Nat} {cal : Operand} {args : Array Operand} {ts : Array TypeId} {fst cap : Array Value} {vs : List Value} (T0 T : List Nat) (D : List Nat) (Lk : Slots) (K1 K2 : Own) {Q : Value → List (Nat × Row) → Own → Prop}
    (hk : ∀ v Y K', Q v Y K' → PlainRows Y → New F Y → JL X ops l s (F.add Y) ((d, v) :: Lk) (K' ++ K2))
    (hg : o.guard = none := by rfl) (ho : o.op = .call ⟨.value cal, args, ts⟩ := by rfl) (hd : o.dst = some d := by rfl) (hN : d < X.N := by exact Nat.le_of_ble_eq_true rfl) (hcal : evO L cal = some (.func (.func f) fst cap) := by rfl) (hs : (fst.toList.all s0 && cap.toList.all s0) = true := by rfl) (hargs : mapE (evO L) args.toList = some vs := by rfl) (hfn : fnOk X.P f = true := by kernel_rfl)
    (hLk : LSub Lk L := by repeat' first | exact trivial | refine And.intro rfl ?_) (hKK : KSub (K1 ++ K2) K := by repeat' first | exact trivial | refine And.intro rfl ?_) (hL : (Lk.all fun x => tgV D x.2) = true := by rfl) (hDT : (D.all fun t => !T.contains t || T0.contains t) = true := by rfl) (hXD : (X.D.all fun t => D.contains t) = true := by rfl) (hK2 : tgK D K2 = true := by rfl)
    (h : ∀ ι, Val ι K2 F → F.le (push ι K2 F) → CA X.P T0 T f ((fst.toList ++ vs ++ cap.toList).map (rVx T0 ι)) (push ι K2 F) K1 Q) : JL X ops (o :: l) s F L K := by
  intro ι a w hF hS
  refine wpList_plain hg fun Kc hKc => ?_
  simp only [Oper.wp, callee_run (e := evO L) (fun x u hu => hF.ev hu) ho hcal hs hargs hfn w, Oper.upon]
  refine ((CA.frame hKK hDT hK2 h) ι w hS).mono fun e w' ⟨ι', F', K', v, h1, h2, h3, Y, K3, e1, e2, h4, h5, h6⟩ => ?_
  subst h1 e1 e2
  have hF0 := hF.weak hLk
  have hF' : Fr X.N ι' Lk a := ⟨hF0.size, hF0.defers, fun s v hv => by rw [cV_tg h3 (List.all_eq_true.1 hL _ (lookup_mem hv))]; exact hF0.slot s v hv⟩
  refine hKc _ _ (JL.tr (ι1 := ι') (fun t ht => h3 t (by simpa using List.all_eq_true.1 hXD t ht)) (hk v Y K3 h6 h4 h5 ι' _ w' ?_ h2))
  rw [hd]
  exact hF'.put hN v
/-- .. that leaves nothing -/
theorem clA0 {f : Nat} {cal : Operand} {args : Array Operand} {ts : Array TypeId} {fst cap : Array Value} {vs : List Value} (T0 T : List Nat) (D : List Nat) (Lk : Slots) (K1 K2 : Own) {Q : Value → List (Nat × Row) → Own → Prop}
    (hk : ∀ v Y K', Q v Y K' → PlainRows Y → New F Y → JL X ops l s (F.add Y) Lk (K' ++ K2))
    (hg : o.guard = none := by rfl) (ho : o.op = .call ⟨.value cal, args, ts⟩ := by rfl) (hd : o.dst = none := by rfl) (hcal : evO L cal = some (.func (.func f) fst cap) := by rfl) (hs : (fst.toList.all s0 && cap.toList.all s0) = true := by rfl) (hargs : mapE (evO L) args.toList = some vs := by rfl) (hfn : fnOk X.P f = true := by kernel_rfl)
    (hLk : LSub Lk L := by repeat' first | exact trivial | refine And.intro rfl ?_) (hKK : KSub (K1 ++ K2) K := by repeat' first | exact trivial | refine And.intro rfl ?_) (hL : (Lk.all fun x => tgV D x.2) = true := by rfl) (hDT : (D.all fun t => !T.contains t || T0.contains t) = true := by rfl) (hXD : (X.D.all fun t => D.contains t) = true := by rfl) (hK2 : tgK D K2 = true := by rfl)
    (h : ∀ ι, Val ι K2 F → F.le (push ι K2 F) → CA X.P T0 T f ((fst.toList ++ vs ++ cap.toList).map (rVx T0 ι)) (push ι K2 F) K1 Q) : JL X ops (o :: l) s F L K := by
  intro ι a w hF hS
  refine wpList_plain hg fun Kc hKc => ?_
  simp only [Oper.wp, callee_run (e := evO L) (fun x u hu => hF.ev hu) ho hcal hs hargs hfn w, Oper.upon]
  refine ((CA.frame hKK hDT hK2 h) ι w hS).mono fun e w' ⟨ι', F', K', v, h1, h2, h3, Y, K3, e1, e2, h4, h5, h6⟩ => ?_
  subst h1 e1 e2
  have hF0 := hF.weak hLk
  have hF' : Fr X.N ι' Lk a := ⟨hF0.size, hF0.defers, fun s v hv => by rw [cV_tg h3 (List.all_eq_true.1 hL _ (lookup_mem hv))]; exact hF0.slot s v hv⟩
  refine hKc _ _ (JL.tr (ι1 := ι') (fun t ht => h3 t (by simpa using List.all_eq_true.1 hXD t ht)) (hk v Y K3 h6 h4 h5 ι' _ w' ?_ h2))
  rw [hd]
  exact hF'.putNone _
/-- .. behind a guard that lets it run -/
theorem clgA {f d j e : Nat} {want : Bool} {cal : Operand} {args : Array Operand} {ts : Array TypeId} {fst cap : Array Value} {vs : List Value} (T0 T : List Nat) (D : List Nat) (Lk : Slots) (K1 K2 : Own) {Q : Value → List (Nat × Row) → Own → Prop}
    (hk : ∀ v Y K', Q v Y K' → PlainRows Y → New F Y → JL X ops l s (F.add Y) ((d, v) :: Lk) (K' ++ K2))
    (hg : o.guard = some (j, want) := by rfl) (hj : (ops[j]?).bind (·.dst) = some e := by rfl) (hb : L.lookup e = some (.bool want) := by rfl) (ho : o.op = .call ⟨.value cal, args, ts⟩ := by rfl) (hd : o.dst = some d := by rfl) (hN : d < X.N := by exact Nat.le_of_ble_eq_true rfl) (hcal : evO L cal = some (.func (.func f) fst cap) := by rfl) (hs : (fst.toList.all s0 && cap.toList.all s0) = true := by rfl) (hargs : mapE (evO L) args.toList = some vs := by rfl) (hfn : fnOk X.P f = true := by kernel_rfl)
    (hLk : LSub Lk L := by repeat' first | exact trivial | refine And.intro rfl ?_) (hKK : KSub (K1 ++ K2) K := by repeat' first | exact trivial | refine And.intro rfl ?_) (hL : (Lk.all fun x => tgV D x.2) = true := by rfl) (hDT : (D.all fun t => !T.contains t || T0.contains t) = true := by rfl) (hXD : (X.D.all fun t => D.contains t) = true := by rfl) (hK2 : tgK D K2 = true := by rfl)
    (h : ∀ ι, Val ι K2 F → F.le (push ι K2 F) → CA X.P T0 T f ((fst.toList ++ vs ++ cap.toList).map (rVx T0 ι)) (push ι K2 F) K1 Q) : JL X ops (o :: l) s F L K := by
  intro ι a w hF hS
  unfold wpList
  rw [if_pos (by rw [JL.wanted hF hg hj hb]; simp)]
  left
  simp only [Oper.wp, callee_run (e := evO L) (fun x u hu => hF.ev hu) ho hcal hs hargs hfn w, Oper.upon]
  refine ((CA.frame hKK hDT hK2 h) ι w hS).mono fun e w' ⟨ι', F', K', v, h1, h2, h3, Y, K3, e1, e2, h4, h5, h6⟩ => ?_
  subst h1 e1 e2
  have hF0 := hF.weak hLk
  have hF' : Fr X.N ι' Lk a := ⟨hF0.size, hF0.defers, fun s v hv => by rw [cV_tg h3 (List.all_eq_true.1 hL _ (lookup_mem hv))]; exact hF0.slot s v hv⟩
  refine JL.tr (ι1 := ι') (fun t ht => h3 t (by simpa using List.all_eq_true.1 hXD t ht)) (hk v Y K3 h6 h4 h5 ι' _ w' ?_ h2)
  rw [hd]
  exact hF'.put hN v
/-- a row gets another tag: all that speaks of it is told anew -/
theorem JL.retagP {d t u : Nat} {off : Nat} {r : Row} (Lk : Slots) (Kk : Own) (h : JL X ops l s F ((d, .pointer (some ⟨u, off, some 0⟩)) :: Lk) ((u, r) :: Kk)) (hd : L.lookup d = some (.pointer (some ⟨t, off, some 0⟩)) := by rfl) (hr : K.lookup t = some r := by rfl)
    (hLk : LSub Lk L := by repeat' first | exact trivial | refine And.intro rfl ?_) (hKk : KSub ((t, r) :: Kk) K := by repeat' first | exact trivial | refine And.intro rfl ?_) (hL : ntL u Lk = true := by rfl) (hK : ntK u Kk = true := by rfl) (hru : (r.flat || r.cs.all (nt1 u)) = true := by rfl) (hD : X.D.contains u = false := by rfl) : JL X ops l s F L K := by
  intro ι a w hF hS
  have hS1 := hS.weak hKk
  have hagree : ∀ v ∈ X.D, upd ι u (ι t) v = ι v := fun v hv => upd_ne ι (fun e => by subst e; simp at hD; exact hD hv)
  refine JL.tr hagree (h (upd ι u (ι t)) a w ?_ (hS1.retag hK hru))
  have hF0 := hF.weak hLk
  refine ⟨hF.size, hF.defers, fun s v hv => ?_⟩
  rw [List.lookup_cons] at hv
  split at hv
  · rename_i e
    have e1 : s = d := by simpa using e
    subst e1
    simp only [Option.some.injEq] at hv
    subst hv
    have := hF.slot s _ hd
    simpa [upd_eq] using this
  · have e1 := (hF0.nt (κ := upd ι u (ι t)) (t := u) (fun v hv => upd_ne ι hv) hL).slot s v hv
    exact e1
end
end Go.Proofs.Ytbeblgjibfoanaa.Am
namespace Go.Proofs.Ytbeblgjibfoanaa.Am
set_option linter.unusedSimpArgs false
set_option linter.unusedVariables false
open Go Go.RowKit
/-! Numbers, appended; rows of one's own that a callee reads. -/
section
variable {X : Cx} {F : Mem} {L : Slots} {K : Own} {s : List SI} {ops : Array Oper} {o : Oper} {l : List Oper}
theorem ivs_nt (xs : List Int) (t : Nat) : (ivs xs).all (nt1 t) = true := List.all_eq_true.2 fun v hv => by obtain ⟨y, _, rfl⟩ := List.mem_map.1 hv; rfl
theorem ivs_one (xs : List Int) : ∀ v ∈ ivs xs, v.oneCell' = true := fun v hv => by obtain ⟨y, _, rfl⟩ := List.mem_map.1 hv; rfl
theorem St.flat {F : Mem} {ι : Nat → Nat} {K : Own} {w : World} {u : Nat} {r : Row} (h : St F ι ((u, r) :: K) w) (hp : ∀ v ∈ r.cs, plain1 v = true) : St F ι ((u, { r with flat := true }) :: K) w := by
  refine ⟨h.below, h.nodup, fun x hx => ?_, h.ext⟩
  rcases List.mem_cons.1 hx with rfl | hx
  · have := h.own _ List.mem_cons_self
    exact ⟨this.1, this.2.1, fun _ => hp⟩
  · exact h.own x (List.mem_cons_of_mem _ hx)
theorem JL.flat {u : Nat} {r : Row} (hp : ∀ v ∈ r.cs, plain1 v = true) (h : JL X ops l s F L ((u, { r with flat := true }) :: K)) : JL X ops l s F L ((u, r) :: K) := fun ι a w hF hS => h ι a w hF (hS.flat hp)
theorem ivs_pl (xs : List Int) : ∀ v ∈ ivs xs, plain1 v = true := fun v hv => by obtain ⟨y, _, rfl⟩ := List.mem_map.1 hv; rfl
/-- all of a told slice of numbers, appended to an own row of numbers -/
theorem apIs {Θ : Tab} {ty ty' el : TypeId} {sx x : Operand} {d n c : Nat} {ti ti' tj : Ty} {xv : Value} {ys xs : List Int} {r : Row} (t u : Nat) (Lk : Slots) (Kk : Own) (hI : RInts F xv xs)
    (hk : ∀ cap, ys.length + xs.length ≤ cap → cap ≤ 9223372036854775807 → JL X ops l s F ((d, .slice (some ⟨u, 0, some 0⟩) (ys.length + xs.length) cap) :: Lk) ((u, { elem := el, cs := ivs (ys ++ xs), room := cap * 1, fz := r.fz, flat := true }) :: Kk))
    (hg : o.guard = none := by rfl) (ho : o.op = .call ⟨.builtin .append, #[sx, x], #[ty, ty']⟩ := by rfl) (hd : o.dst = some d := by rfl) (hN : d < X.N := by exact Nat.le_of_ble_eq_true rfl) (hθ : tabOk X.P Θ = true := by exact hT)
    (hi : Θ.lookup ty = some ti := by rfl) (hki : ti.k = .slice el := by rfl) (hi' : Θ.lookup ty' = some ti' := by rfl) (hk' : slB ti'.k = true := by rfl) (hj : Θ.lookup el = some tj := by rfl) (hz0 : tj.zero.length = tj.size := by rfl) (hsz : tj.size = 1 := by rfl) (hby8 : tj.bytes = 8 := by rfl)
    (hs : evO L sx = some (.slice (some ⟨u, 0, some 0⟩) n c) := by rfl) (hx : evO L x = some xv := by rfl) (hr : K.lookup u = some r := by rfl) (hcs : r.cs = ivs ys := by rfl) (hLk : LSub Lk L := by repeat' first | exact trivial | refine And.intro rfl ?_) (hKk : KSub Kk K := by repeat' first | exact trivial | refine And.intro rfl ?_)
    (hn : n = ys.length := by first | rfl | omega) (hroom : r.room = c * 1 := by rfl) (hel : r.elem = el := by rfl) (hnc : n ≤ c := by first | exact Nat.le_of_ble_eq_true rfl | omega) (hcm : c ≤ 9223372036854775807 := by first | exact Nat.le_of_ble_eq_true rfl | omega)
    (hby : (ys.length + xs.length) * 8 ≤ 140737488355328 := by (try simp only [List.length_nil]); omega)
    (hL : ntL t L = true := by rfl) (hK : ntK t K = true := by rfl) (hD : X.D.contains t = false := by rfl) (hDu : X.D.contains u = false := by rfl) (hdk : (Lk.all fun x => x.1 != d) = true := by rfl) (hKu : ntK u Kk = true := by rfl) (hKt : ntK t Kk = true := by rfl) (hLu : ntL u Lk = true := by rfl) : JL X ops (o :: l) s F L K := by
  subst hn
  rcases Nat.eq_zero_or_pos xs.length with hz | hz
  · have hxs : xs = [] := List.eq_nil_of_length_eq_zero hz
    subst hxs
    have happ : App X.P F K tj.size xv 0 [] := by
      rcases hI with ⟨b, off, c', rfl, _, _⟩ | ⟨rfl, _⟩
      · exact App.slice (by simp [rdN, lookN]) (fun v hv => by cases hv) (by simp)
      · exact App.nil _ _
    refine ap0 ?_ hg ho hd hN hθ hi hki hi' hk' hj hs hx happ hnc
    have h1 := hk c (by simpa using hnc) hcm
    rw [List.append_nil, List.length_nil, Nat.add_zero] at h1
    have h2 : JL X ops l s F ((d, .slice (some ⟨u, 0, some 0⟩) ys.length c) :: Lk) ((u, { r with cs := ivs ys }) :: Kk) := by
      refine JL.flat (ivs_pl ys) ?_
      rw [← hel]at h1
      have e : r.room = c * 1 := hroom
      rw [← e] at h1
      exact h1
    refine JL.weak (hLk.cons hdk) ?_ h2
    refine KSub.of_all ?_ ?_
    · have := hKk.tags
      simp only [List.map_cons, List.nodup_cons]
      refine ⟨fun hm => ?_, this⟩
      obtain ⟨y, hy, e⟩ := List.mem_map.1 hm
      have h2 := List.all_eq_true.1 hKu y hy
      simp only [Bool.and_eq_true, bne_iff_ne, ne_eq] at h2
      exact h2.1 e
    · intro y hy
      rcases List.mem_cons.1 hy with rfl | hy
      · rw [hr, ← hcs]
      · exact hKk.mem y hy
  · rcases hI with ⟨b, off, c', rfl, h63, hrd⟩ | ⟨rfl, rfl⟩
    · have happ : App X.P F K tj.size (.slice (some ⟨b, off, none⟩) xs.length c') xs.length (ivs xs) := by
        rw [hsz]
        refine App.slice ?_ (ivs_one xs) (by rw [ivs_length, Nat.mul_one])
        rw [Nat.mul_one]
        exact lookN_ints hrd
      refine apO (m := xs.length) (news := ivs xs) t u Lk Kk ?_ hg ho hd hN hθ hi hki hi' hk' hj hz0 (by omega) hs hx hr happ hLk hKk (by rw [hsz]; exact hroom) hel (by rw [hcs, ivs_length, hsz, Nat.mul_one]) hnc hcm hz (by omega) (by rw [hby8]; exact hby) (fun _ => List.all_eq_true.2 fun v hv => by obtain ⟨y, _, rfl⟩ := List.mem_map.1 hv; rfl) hL hK (ivs_nt _ _) hD hDu hdk hKu hKt hLu (by rw [hcs, ← ivs_append, ivs_nt, Bool.or_true])
      intro cap hc1 hc2
      rw [hcs, ← ivs_append, hsz]
      exact JL.flat (ivs_pl _) (hk cap hc1 hc2)
    · simp at hz
end
theorem apIs0 {X : Cx} {F : Mem} {L : Slots} {K : Own} {s : List SI} {ops : Array Oper} {o : Oper} {l : List Oper} {Θ : Tab} {ty ty' el : TypeId} {sx x : Operand} {d c : Nat} {ti ti' tj : Ty} {xv : Value} {xs : List Int} {r : Row} (t u : Nat) (Lk : Slots) (Kk : Own) (hI : RInts F xv xs)
    (hk : ∀ cap, xs.length ≤ cap → cap ≤ 9223372036854775807 → JL X ops l s F ((d, .slice (some ⟨u, 0, some 0⟩) xs.length cap) :: Lk) ((u, { elem := el, cs := ivs xs, room := cap * 1, fz := r.fz, flat := true }) :: Kk))
    (hg : o.guard = none := by rfl) (ho : o.op = .call ⟨.builtin .append, #[sx, x], #[ty, ty']⟩ := by rfl) (hd : o.dst = some d := by rfl) (hN : d < X.N := by exact Nat.le_of_ble_eq_true rfl) (hθ : tabOk X.P Θ = true := by exact hT)
    (hi : Θ.lookup ty = some ti := by rfl) (hki : ti.k = .slice el := by rfl) (hi' : Θ.lookup ty' = some ti' := by rfl) (hk' : slB ti'.k = true := by rfl) (hj : Θ.lookup el = some tj := by rfl) (hz0 : tj.zero.length = tj.size := by rfl) (hsz : tj.size = 1 := by rfl) (hby8 : tj.bytes = 8 := by rfl)
    (hs : evO L sx = some (.slice (some ⟨u, 0, some 0⟩) 0 c) := by rfl) (hx : evO L x = some xv := by rfl) (hr : K.lookup u = some r := by rfl) (hcs : r.cs = [] := by rfl) (hLk : LSub Lk L := by repeat' first | exact trivial | refine And.intro rfl ?_) (hKk : KSub Kk K := by repeat' first | exact trivial | refine And.intro rfl ?_)
    (hroom : r.room = c * 1 := by rfl) (hel : r.elem = el := by rfl) (hcm : c ≤ 9223372036854775807 := by first | exact Nat.le_of_ble_eq_true rfl | omega)
    (hby : xs.length * 8 ≤ 140737488355328 := by omega)
    (hL : ntL t L = true := by rfl) (hK : ntK t K = true := by rfl) (hD : X.D.contains t = false := by rfl) (hDu : X.D.contains u = false := by rfl) (hdk : (Lk.all fun x => x.1 != d) = true := by rfl) (hKu : ntK u Kk = true := by rfl) (hKt : ntK t Kk = true := by rfl) (hLu : ntL u Lk = true := by rfl) : JL X ops (o :: l) s F L K := by
  refine apIs (ys := []) t u Lk Kk hI (fun cap h1 h2 => ?_) hg ho hd hN hθ hi hki hi' hk' hj hz0 hsz hby8 hs hx hr hcs hLk hKk rfl hroom hel (Nat.zero_le _) hcm (by simpa using hby) hL hK hD hDu hdk hKu hKt hLu
  have := hk cap (by simpa using h1) h2
  rw [List.length_nil, Nat.zero_add, List.nil_append]
  exact this
theorem Val.intsR {ι : Nat → Nat} {K : Own} {F : Mem} (h : Val ι K F) {t : Nat} {r : Row} {xs : List Int} {n c : Nat} (hr : K.lookup t = some r) (hcs : r.cs = ivs xs) (hn : n = xs.length) (hl : xs.length ≤ 9223372036854775807) : RInts (push ι K F) (.slice (some ⟨ι t, 0, none⟩) n c) xs := by
  subst hn
  refine .inl ⟨_, _, _, rfl, hl, fun i x hx => ?_⟩
  have := h.look hr (o := i) (v := .int .i64 x) (by rw [hcs]; exact ivs_get hx)
  rw [Nat.zero_add]
  exact this
end Go.Proofs.Ytbeblgjibfoanaa.Am
namespace Go.Proofs.Ytbeblgjibfoanaa.Am
set_option linter.unusedSimpArgs false
set_option linter.unusedVariables false
set_option maxRecDepth 100000
set_option maxHeartbeats 4000000
open Go Go.RowKit
theorem RCost_C (F : Mem) (v u : Value) (l : List Item) (at' : List Int) (x : Par) (hv : RItems F v l) (hu : RInts F u at') : C0 Try.prog 31 [v, u, x.v] F (.tuple #[.int .i64 (costD l at' x).1, .bool (costD l at' x).2]) := by
  have hcd : ¬ (goodL l = true ∧ x.good = true ∧ 0 < at'.length ∧ ints at' (at'.length - 1) = l.length - 1) → costD l at' x = (0, false) := fun h => by simp only [costD, h, if_false]
  have hcg : (goodL l = true ∧ x.good = true ∧ 0 < at'.length ∧ ints at' (at'.length - 1) = l.length - 1) → costD l at' x = wayD l x at' (-1) 1 0 := fun h => by simp only [costD, h, and_self, if_true]
  rcases hv.cases with ⟨vb, vo, vc, rfl, _, hr⟩ | ⟨rfl, rfl⟩
  · rcases hu with ⟨ab, ao, ac, rfl, hal, har⟩ | ⟨rfl, rfl⟩
    · have hlast : 0 < at'.length → look F ⟨ab, ao + ((at'.length : Int) - 1).toNat * 1, none⟩ = some (.int .i64 (ints at' (at'.length - 1))) := fun h => by
        rw [Nat.mul_one]
        have := har (at'.length - 1) _ (ints_get (by omega))
        rwa [show ((at'.length : Int) - 1).toNat = at'.length - 1 from by omega]
      have hix : ∀ k, k < at'.length → look F ⟨ab, ao + (k : Int).toNat * 1, none⟩ = some (.int .i64 (ints at' k)) := fun k h => by
        rw [Nat.mul_one]
        exact har k _ (ints_get h)
      obtain ⟨xw, tol, line, twice, odd⟩ := x
      generalize hX : (⟨xw, tol, line, twice, odd⟩ : Par) = X at *
      have hXv : X.v = .agg #[.int .i64 xw, .int .i64 tol, .int .i64 line, .int .i64 twice, .int .i64 odd] := by rw [← hX]; rfl
      have hGd : ∀ G : Mem, C0 Try.prog 35 [.agg #[.int .i64 xw, .int .i64 tol, .int .i64 line, .int .i64 twice, .int .i64 odd]] G (.bool X.good) := fun G => by rw [← hXv]; exact r23Good_C G X
      have hJ : ∀ (G : Mem), F.le G → ∀ (a : Int) (a1 b : Nat), goodL l = true → X.good = true → a + 1 = a1 → a1 ≤ b → b < l.length → C0 Try.prog 43 [.slice (some ⟨vb, vo, none⟩) l.length vc, .int .i64 a, .int .i64 b, .agg #[.int .i64 xw, .int .i64 tol, .int .i64 line, .int .i64 twice, .int .i64 odd]] G (judgV (toldD l X a1 b)) := fun G hG a a1 b h1 h2 h3 h4 h5 => by rw [← hXv]; exact told24_C G _ l a a1 b X (hv.le hG) h1 h2 h3 h4 h5
      have hMo : ∀ (G : Mem) (a b : Int) (f g : Bool), C0 Try.prog 51 [.int .i64 a, .int .i64 b, .bool f, .bool g, .agg #[.int .i64 xw, .int .i64 tol, .int .i64 line, .int .i64 twice, .int .i64 odd]] G (.int .i64 (moreD a b f g X)) := fun G a b f g => by rw [← hXv]; exact r23More_C G a b f g X
      have hXl : X.line = line := by rw [← hX]
      rw [hXv]
      refine C.go hT Try.func31 Try.ntmps31 ?_
      refine sq ?_
      refine rg ?_
      refine bx ?_
      iterate 2 (refine st (h := O) ?_)
      refine nl ?_
      iterate 2 (refine sq ?_)
      refine rg ?_
      refine st (h := O) ?_
      refine cl (h := by exact fun ι hV hl => RGood_C _ _ l (hv.le hl)) ?_
      iterate 2 (refine st (h := O) ?_)
      refine gB (fun g18 => ?_) (fun g18 => ?_)
      · refine sp ?_
        iterate 2 (refine sp ?_)
        iterate 2 (refine st (h := O) ?_)
        iterate 3 (refine sp ?_)
        iterate 2 (refine st (h := O) ?_)
        iterate 10 (refine sp ?_)
        refine st (h := O) ?_
        refine nl ?_
        refine cT ?_
        refine sq ?_
        refine rg ?_
        iterate 2 (refine st (h := O) ?_)
        refine nl ?_
        refine rt ⟨?_, rfl⟩
        rw [hcd (by rintro ⟨h, -⟩; simp [h] at g18)]
      · have hlen := good_len (l := l) (by simpa using g18)
        refine sg (h := sdLN) ?_
        refine clg (h := by exact fun ι hV hl => hGd _) ?_
        refine sg (h := O) ?_
        iterate 2 (refine st (h := O) ?_)
        refine gB (fun g23 => ?_) (fun g23 => ?_)
        · refine sp ?_
          iterate 2 (refine sp ?_)
          iterate 2 (refine st (h := O) ?_)
          iterate 10 (refine sp ?_)
          refine st (h := O) ?_
          refine nl ?_
          refine cT ?_
          refine sq ?_
          refine rg ?_
          iterate 2 (refine st (h := O) ?_)
          refine nl ?_
          refine rt ⟨?_, rfl⟩
          rw [hcd (by rintro ⟨-, h, -⟩; simp [h] at g23)]
        · refine sg (h := O) ?_
          iterate 2 (refine sg (h := O) ?_)
          iterate 2 (refine st (h := O) ?_)
          refine gD (fun g28 => ?_) (fun g28 => ?_)
          · refine sp ?_
            iterate 9 (refine sp ?_)
            refine st (h := O) ?_
            refine nl ?_
            refine cT ?_
            refine sq ?_
            refine rg ?_
            iterate 2 (refine st (h := O) ?_)
            refine nl ?_
            refine rt ⟨?_, rfl⟩
            rw [hcd (by simp; omega)]
          · have hpos : 0 < at'.length := by omega
            have hlk := hlast hpos
            iterate 3 (refine sg (h := O) ?_)
            refine sg (h := sdS) ?_
            refine sg (h := (sdX (z := 1))) ?_
            refine sg (h := (by first | exact sdLG | exact sdW)) ?_
            iterate 2 (refine sg (h := O) ?_)
            refine sg (h := sdS) ?_
            refine sg (h := O) ?_
            refine st (h := O) ?_
            refine nl ?_
            refine cN (fun c0 => ?_) (fun c0 => ?_)
            · refine sq ?_
              refine rg ?_
              iterate 2 (refine st (h := O) ?_)
              refine nl ?_
              refine rt ⟨?_, rfl⟩
              rw [hcd (by simp only [not_and]; intros; omega)]
            · have hgl : goodL l = true := by simpa using g18
              have hgx : X.good = true := by simpa using g23
              rw [hcg ⟨hgl, hgx, hpos, by omega⟩]
              clear hcd hcg hlk hlast
              refine sk ?_
              refine sq ?_
              refine rg ?_
              iterate 4 (refine st (h := O) ?_)
              refine nl ?_
              iterate 2 (refine sq ?_)
              refine rg ?_
              refine st (h := O) ?_
              refine nl ?_
              refine bl ?_
              refine J.loop4 (α := Nat) (β := Int) (γ := Int) (δ := Int) (fun k a cls sum => k ≤ at'.length ∧ -1 ≤ a ∧ a < l.length ∧ (k : Int) ≤ a + 1 ∧ (a = -1 ∨ legalB l a = true) ∧ (-100000000 * (k : Int) ≤ sum ∧ sum ≤ 223000000 * (k : Int)) ∧ wayD l X (at'.drop k) a cls sum = wayD l X at' (-1) 1 0) (fun k a cls sum => [(8, .int .i64 sum), (9, .int .i64 cls), (10, .bool (flagA l a)), (11, .int .i64 a), (12, .int .i64 k)]) [(0, _), (1, _), (5, _)] (fun k a cls sum => []) [(5, _)] (fun k a cls sum => at'.length - k) (0) (-1) (1) (0) (by exact ⟨rfl, rfl, rfl, rfl, rfl, trivial⟩) (by exact ⟨rfl, rfl, rfl, trivial⟩) (by exact ⟨rfl, rfl, trivial⟩) ?_ ?_
              · exact ⟨by omega, by omega, by omega, by omega, .inl rfl, by omega, rfl⟩
              · intro k a cls sum L1 K1 e1 e2 hI
                dsimp only [apV, apR, List.cons_append, List.nil_append] at e1 e2
                subst e1 e2
                obtain ⟨hk, ha, hal2, hka, hla, hsum, hway⟩ := hI
                iterate 2 (refine sq ?_)
                refine rg ?_
                iterate 4 (refine st (h := O) ?_)
                refine nl ?_
                refine cD (fun c1 => ?_) (fun c1 => ?_)
                · have hkl : k < at'.length := by omega
                  have hlk := hix k hkl
                  rw [drop_cons hkl] at hway
                  generalize ints at' k = b at *
                  refine sk ?_
                  refine sq ?_
                  refine bl ?_
                  refine sq ?_
                  refine rg ?_
                  iterate 2 (refine st (h := O) ?_)
                  refine st (h := (sdX (z := 1))) ?_
                  refine st (h := (by first | exact sdLG | exact sdW)) ?_
                  refine st (h := O) ?_
                  refine nl ?_
                  iterate 2 (refine sq ?_)
                  refine rg ?_
                  iterate 4 (refine st (h := O) ?_)
                  refine gD (fun g53 => ?_) (fun g53 => ?_)
                  · refine sp ?_
                    iterate 4 (refine sp ?_)
                    refine st (h := O) ?_
                    refine nl ?_
                    refine cT ?_
                    refine sq ?_
                    refine rg ?_
                    iterate 2 (refine st (h := O) ?_)
                    refine nl ?_
                    refine rt ⟨?_, rfl⟩
                    rw [← hway, wayD_bad (by omega)]
                  · refine sg (h := O) ?_
                    iterate 2 (refine sg (h := O) ?_)
                    refine clg (h := by exact fun ι hV hl => ends_C _ _ l _ _ (hv.le hl)) ?_
                    rw [ends_iff hgl]
                    refine sg (h := O) ?_
                    refine st (h := O) ?_
                    refine nl ?_
                    refine cB (fun c2 => ?_) (fun c2 => ?_)
                    · refine sq ?_
                      refine rg ?_
                      iterate 2 (refine st (h := O) ?_)
                      refine nl ?_
                      refine rt ⟨?_, rfl⟩
                      have hB := not_of c2
                      rw [← hway, wayD_bad (fun h => hB (by
                        simp only [lineB, hgl, Bool.true_and, Bool.and_eq_true, Bool.or_eq_true, decide_eq_true_eq]
                        exact ⟨⟨h.2, h.1⟩, hla⟩))]
                    · have hB := of_not c2
                      obtain ⟨_, hb0, hbl, ha0, hab⟩ := lineB_facts hB
                      obtain ⟨a1, ha1⟩ := Int.eq_ofNat_of_zero_le (show (0 : Int) ≤ a + 1 by omega)
                      obtain ⟨b1, rfl⟩ := Int.eq_ofNat_of_zero_le hb0
                      have hleg : legalB l b1 = true := by simp only [lineB, Bool.and_eq_true] at hB; exact hB.1.1.2
                      refine sk ?_
                      refine sq ?_
                      refine rg ?_
                      iterate 3 (refine st (h := O) ?_)
                      refine st (h := sdLN) ?_
                      refine cl (h := by exact fun ι hV hl => hJ _ hl a a1 b1 hgl hgx ha1 (by omega) (by omega)) ?_
                      refine al ?_
                      refine so ?_
                      refine nl ?_
                      iterate 2 (refine sq ?_)
                      refine rg ?_
                      refine st (h := sdFA) ?_
                      refine st (h := sdL) ?_
                      refine st (h := O) ?_
                      refine nl ?_
                      refine cB (fun c3 => ?_) (fun c3 => ?_)
                      · refine sq ?_
                        refine rg ?_
                        iterate 2 (refine st (h := O) ?_)
                        refine nl ?_
                        refine rt ⟨?_, rfl⟩
                        rw [← hway, wayD_off (by rw [toldD_fits] at c3; simpa [ha1] using c3)]
                      · have hfit : (judD l X a1 b1).fits = true := by rw [toldD_fits] at c3; simpa using c3
                        rw [toldD_eq hfit]
                        obtain ⟨r0, r1, r2, r3, r4, r5, g, hg2, hri⟩ := hr b1 (by omega)
                        have hN2 : ∀ K, rdN F K ⟨vb, vo + (b1 : Int).toNat * 11, none⟩ 11 = some ((at_ l b1).cells g) := fun K => hg2
                        have hsv := hri.sl
                        have hdb := demD_bd l X (judD l X a1 b1).bad (judD l X a1 b1).cls cls a b1
                        have hl1 := lineD_bd line (judD l X a1 b1).bad (costB (at_ l b1))
                        have hm1 := moreD_bd cls (judD l X a1 b1).cls (flagA l a) (flagB (at_ l b1)) X
                        have hdm : demD l X (judD l X a1 b1).bad (judD l X a1 b1).cls cls a b1 = lineD line (judD l X a1 b1).bad (costB (at_ l b1)) + moreD cls (judD l X a1 b1).cls (flagA l a) (flagB (at_ l b1)) X := by
                          unfold demD costA flagA
                          simp [hXl]
                        rcases hri with (⟨gb, go, gc, rfl, _, _⟩ | ⟨rfl, _⟩) | ⟨gb, go, gsp, rfl, _⟩
                        all_goals
                          refine sk ?_
                          refine sq ?_
                          refine dr 25 [14, 5] [0, 1, 2, 3, 4, 5, 6, 7, 8, 11, 12, 13, 14, 15, 16, 17, 18, 20, 1009, 1010, 1019, 1021, 22, 23, 24] ?_
                          refine dt (hv := by exact O) ?_
                          refine dt (hv := by exact sdFA) ?_
                          refine dt (hv := by exact sdL) ?_
                          refine dt (hv := by exact sdFA) ?_
                          refine dt (hv := by exact sdL) ?_
                          iterate 2 (refine dt (hv := by exact O) ?_)
                          refine dt (hv := by exact (sdX (z := 11))) ?_
                          refine dt (hv := by exact sdLN (hv := hN2 _)) ?_
                          refine dt (hv := by exact O) ?_
                          refine dt (hv := by exact sdFA) ?_
                          refine dt (hv := by exact sdL) ?_
                          iterate 3 (refine dt (hv := by exact O) ?_)
                          refine dt (hv := by exact (sdX (z := 11))) ?_
                          refine dt (hv := by exact sdLN (hv := hN2 _)) ?_
                          refine dt (hv := by exact sdLN) ?_
                          refine dcl (hkp := by first | exact Kept.all | exact Kept.k0 | exact Kept.kY) (h := by exact fun ι hV hl => rcost_C _ (at_ l b1) _ hsv) ?_
                          refine dcl (hkp := by first | exact Kept.all | exact Kept.k0 | exact Kept.kY) (h := by exact fun ι hV hl => r23Line_C _ _ _ _) ?_
                          refine dcl (hkp := by first | exact Kept.all | exact Kept.k0 | exact Kept.kY) (h := by exact fun ι hV hl => rflag_C _ (at_ l b1) _ hsv) ?_
                          refine dcl (hkp := by first | exact Kept.all | exact Kept.k0 | exact Kept.kY) (h := by exact fun ι hV hl => hMo _ _ _ _ _) ?_
                          iterate 2 (refine dt (hv := by exact sdA) ?_)
                          refine dt (hv := by exact O) ?_
                          refine dn ?_
                          refine dr 11 [14, 5] [0, 1, 2, 3, 4, 5, 7, 1006, 8, 9, 10] ?_
                          refine dt (hv := by exact sdFA) ?_
                          refine dt (hv := by exact sdL) ?_
                          iterate 2 (refine dt (hv := by exact O) ?_)
                          refine dt (hv := by exact (sdX (z := 11))) ?_
                          refine dt (hv := by exact sdLN (hv := hN2 _)) ?_
                          refine dt (hv := by exact O) ?_
                          refine dcl (hkp := by first | exact Kept.all | exact Kept.k0 | exact Kept.kY) (h := by exact fun ι hV hl => rflag_C _ (at_ l b1) _ hsv) ?_
                          iterate 3 (refine dt (hv := by exact O) ?_)
                          refine dn ?_
                          refine bk ?_
                          refine rg ?_
                          refine st (h := O) ?_
                          refine st (h := sdA) ?_
                          refine st (h := O) ?_
                          refine nl ?_
                          refine bk4 (k + 1) (_) (_) (_) (by exact ⟨rfl, rfl, rfl, rfl, rfl, trivial⟩) (by exact ⟨rfl, rfl, rfl, trivial⟩) (by exact ⟨rfl, rfl, trivial⟩) ?_ ?_
                          · omega
                          · refine ⟨by omega, by omega, by omega, by omega, .inr hleg, by omega, ?_⟩
                            rw [← hway, wayD_step ⟨by omega, hleg⟩ (by simpa [ha1] using hfit)]
                            simp only [ha1, Int.toNat_natCast, hdm]
                · have hkl : k = at'.length := by omega
                  subst hkl
                  rw [List.drop_length] at hway
                  refine ex ?_
                  refine sq ?_
                  refine rg ?_
                  iterate 3 (refine st (h := O) ?_)
                  refine nl ?_
                  refine rt ⟨?_, rfl⟩
                  rw [← hway]; rfl
    · obtain ⟨xw, tol, line, twice, odd⟩ := x
      dsimp only [Par.v]
      refine C.go hT Try.func31 Try.ntmps31 ?_
      refine sq ?_
      refine rg ?_
      refine bx ?_
      iterate 2 (refine st (h := O) ?_)
      refine nl ?_
      iterate 2 (refine sq ?_)
      refine rg ?_
      refine st (h := O) ?_
      refine cl (h := by exact fun ι hV hl => RGood_C _ _ l (hv.le hl)) ?_
      iterate 2 (refine st (h := O) ?_)
      refine gB (fun g18 => ?_) (fun g18 => ?_)
      · refine sp ?_
        iterate 2 (refine sp ?_)
        iterate 2 (refine st (h := O) ?_)
        iterate 3 (refine sp ?_)
        iterate 2 (refine st (h := O) ?_)
        iterate 10 (refine sp ?_)
        refine st (h := O) ?_
        refine nl ?_
        refine cT ?_
        refine sq ?_
        refine rg ?_
        iterate 2 (refine st (h := O) ?_)
        refine nl ?_
        exact rt ⟨by rw [hcd (by simp)], rfl⟩
      · refine sg (h := sdLN) ?_
        refine clg (h := by exact fun ι hV hl => r23Good_C _ ⟨xw, tol, line, twice, odd⟩) ?_
        refine sg (h := O) ?_
        iterate 2 (refine st (h := O) ?_)
        refine gB (fun g23 => ?_) (fun g23 => ?_)
        · refine sp ?_
          iterate 2 (refine sp ?_)
          iterate 2 (refine st (h := O) ?_)
          iterate 10 (refine sp ?_)
          refine st (h := O) ?_
          refine nl ?_
          refine cT ?_
          refine sq ?_
          refine rg ?_
          iterate 2 (refine st (h := O) ?_)
          refine nl ?_
          exact rt ⟨by rw [hcd (by simp)], rfl⟩
        · refine sg (h := O) ?_
          iterate 2 (refine sg (h := O) ?_)
          iterate 2 (refine st (h := O) ?_)
          refine gD (fun g28 => ?_) (fun g28 => ?_)
          · refine sp ?_
            iterate 9 (refine sp ?_)
            refine st (h := O) ?_
            refine nl ?_
            refine cT ?_
            refine sq ?_
            refine rg ?_
            iterate 2 (refine st (h := O) ?_)
            refine nl ?_
            exact rt ⟨by rw [hcd (by simp)], rfl⟩
          · exact absurd rfl g28
  · have hsl : (∃ b o n c, u = .slice (some ⟨b, o, none⟩) n c) ∨ ∃ n c, u = .slice none n c := hu.sl
    obtain ⟨xw, tol, line, twice, odd⟩ := x
    dsimp only [Par.v]
    rcases hsl with ⟨b, o, n, c, rfl⟩ | ⟨n, c, rfl⟩
    all_goals
      refine C.go hT Try.func31 Try.ntmps31 ?_
      refine sq ?_
      refine rg ?_
      refine bx ?_
      iterate 2 (refine st (h := O) ?_)
      refine nl ?_
      iterate 2 (refine sq ?_)
      refine rg ?_
      refine st (h := O) ?_
      refine cl (h := by exact fun ι hV hl => RGood_C _ _ [] (hv.le hl)) ?_
      iterate 2 (refine st (h := O) ?_)
      refine gB (fun g18 => ?_) (fun g18 => ?_)
      · refine sp ?_
        iterate 2 (refine sp ?_)
        iterate 2 (refine st (h := O) ?_)
        iterate 3 (refine sp ?_)
        iterate 2 (refine st (h := O) ?_)
        iterate 10 (refine sp ?_)
        refine st (h := O) ?_
        refine nl ?_
        refine cT ?_
        refine sq ?_
        refine rg ?_
        iterate 2 (refine st (h := O) ?_)
        refine nl ?_
        exact rt ⟨by rw [hcd (by rintro ⟨h, -⟩; cases h)], rfl⟩
      · cases g18

end Go.Proofs.Ytbeblgjibfoanaa.Am
namespace Go.Proofs.Ytbeblgjibfoanaa.Am
set_option linter.unusedSimpArgs false
set_option linter.unusedVariables false
set_option maxRecDepth 100000
set_option maxHeartbeats 4000000
open Go Go.RowKit
/-- a step for each of so many, from a place on -/
def tryF {σ : Type} (g : Nat → σ → σ) (a1 : Nat) : Nat → σ → σ
  | 0, st => st
  | m + 1, st => g (a1 + m) (tryF g a1 m st)
/-- how trying stands: how many steps are left, the least so far, whether there is one -/
structure Tri where
  left : Int
  least : Int
  has : Bool
def tryEnd (l : List Item) (x : Par) (at' : List Int) (st : Tri) : Tri :=
  if (costD l at' x).2 = true ∧ (st.has = false ∨ (costD l at' x).1 < st.least) then ⟨st.left - 1, (costD l at' x).1, true⟩ else ⟨st.left - 1, st.least, st.has⟩
def tryD (l : List Item) (x : Par) : Nat → List Int → Tri → Tri
  | 0, _, st => st
  | d + 1, at', st => if st.left = 0 then st else
    if lastO (-1) at' = (l.length : Int) - 1 then tryEnd l x at' st else
    tryF (fun b st => if fitsD l (lastO (-1) at') b x = true then tryD l x d (at' ++ [(b : Int)]) st else st) (lastO (-1) at' + 1).toNat (l.length - (lastO (-1) at' + 1).toNat) ⟨st.left - 1, st.least, st.has⟩
def wRow (v : Value) (x : Par) (st : Tri) : Row := { elem := 44, cs := [v, .int .i64 x.w, .int .i64 x.tol, .int .i64 x.line, .int .i64 x.twice, .int .i64 x.odd, .int .i64 st.left, .int .i64 st.least, .bool st.has], room := 9, fz := false, flat := false }
theorem lastO_snoc : ∀ (xs : List Int) (a b : Int), lastO a (xs ++ [b]) = b
  | [], _, _ => rfl
  | _ :: xs, _, b => lastO_snoc xs _ b
theorem tryF_left {g : Nat → Tri → Tri} {a1 : Nat} (h : ∀ b st, 0 ≤ st.left → 0 ≤ (g b st).left ∧ (g b st).left ≤ st.left) : ∀ m st, 0 ≤ st.left → 0 ≤ (tryF g a1 m st).left ∧ (tryF g a1 m st).left ≤ st.left
  | 0, st, h0 => ⟨h0, Int.le_refl _⟩
  | m + 1, st, h0 => by
    have ih := tryF_left h (a1 := a1) m st h0
    have := h (a1 + m) _ ih.1
    simp only [tryF]
    omega
theorem tryD_left (l : List Item) (x : Par) : ∀ d at' (st : Tri), 0 ≤ st.left → 0 ≤ (tryD l x d at' st).left ∧ (tryD l x d at' st).left ≤ st.left
  | 0, at', st, h => ⟨h, Int.le_refl _⟩
  | d + 1, at', st, h => by
    simp only [tryD]
    split
    · exact ⟨h, Int.le_refl _⟩
    · split
      · unfold tryEnd
        split <;> dsimp only <;> omega
      · have := tryF_left (g := fun b st => if fitsD l (lastO (-1) at') b x = true then tryD l x d (at' ++ [(b : Int)]) st else st) (a1 := (lastO (-1) at' + 1).toNat) (fun b st h0 => by
          split
          · exact tryD_left l x d _ st h0
          · exact ⟨h0, Int.le_refl _⟩) (l.length - (lastO (-1) at' + 1).toNat) ⟨st.left - 1, st.least, st.has⟩ (by dsimp only; omega)
        dsimp only at this
        omega
theorem try_C (l : List Item) (x : Par) (hg : goodL l = true) (hlen16 : l.length ≤ 16) (v : Value) : ∀ (d : Nat) (F : Mem) (u : Value) (at' : List Int) (st : Tri), RItems F v l → RInts F u at' → -1 ≤ lastO (-1) at' → lastO (-1) at' < l.length → (l.length : Int) - lastO (-1) at' ≤ d → (at'.length : Int) ≤ lastO (-1) at' + 1 → 0 ≤ st.left → st.left ≤ 3000 →
    CA Try.prog [500001] [500001] 22 [.pointer (some ⟨500001, 0, some 0⟩), u] F [(500001, wRow v x st)] (fun r Y K' => r = .tuple #[] ∧ Y = [] ∧ K' = [(500001, wRow v x (tryD l x d at' st))])
  | 0, F, u, at', st, _, _, _, h, h2, _, _, _ => by omega
  | d + 1, F, u, at', st, hv, hu, hlo, hhi, hd, hat, hl0, hl3 => by
    have ih := try_C l x hg hlen16 v d
    have hz : st.left = 0 → tryD l x (d + 1) at' st = st := fun h => by simp only [tryD, h, if_true]
    have hE : ¬ st.left = 0 → lastO (-1) at' = (l.length : Int) - 1 → tryD l x (d + 1) at' st = tryEnd l x at' st := fun h h2 => by simp only [tryD, h, h2, if_true, if_false]
    have hF : ¬ st.left = 0 → ¬ lastO (-1) at' = (l.length : Int) - 1 → tryD l x (d + 1) at' st = tryF (fun b st => if fitsD l (lastO (-1) at') b x = true then tryD l x d (at' ++ [(b : Int)]) st else st) (lastO (-1) at' + 1).toNat (l.length - (lastO (-1) at' + 1).toNat) ⟨st.left - 1, st.least, st.has⟩ := fun h h2 => by simp only [tryD, h, h2, if_false]
    have hla : at'.length ≠ 0 → lastO (-1) at' = ints at' (at'.length - 1) := fun h => lastO_ints _ _ (by omega)
    have hl00 : at'.length = 0 → lastO (-1) at' = -1 := fun h => by rw [List.length_eq_zero_iff] at h; subst h; rfl
    have hgF : ∀ b (st' : Tri), 0 ≤ st'.left → _ := fun b (st' : Tri) (h0 : 0 ≤ st'.left) => tryD_left l x d (at' ++ [(b : Int)]) st' h0
    have hRC : ∀ G w y, RItems G w l → RInts G y at' → C0 Try.prog 31 [w, y, x.v] G (.tuple #[.int .i64 (costD l at' x).1, .bool (costD l at' x).2]) := fun G w y h1 h2 => RCost_C G w y l _ x h1 h2
    have hFi : ∀ G w (a b : Int), RItems G w l → C0 Try.prog 28 [w, .int .i64 a, .int .i64 b, x.v] G (.bool (fitsD l a b x)) := fun G w a b h1 => R24Fits_C G w l a b x h1
    generalize hla' : lastO (-1) at' = a at *
    unfold tryEnd at hE
    generalize costD l at' x = cd at *
    obtain ⟨cc, ok⟩ := cd
    obtain ⟨xw, tol, line, twice, odd⟩ := x
    generalize hxe : (⟨xw, tol, line, twice, odd⟩ : Par) = x at *
    have hxv : x.v = .agg #[.int .i64 xw, .int .i64 tol, .int .i64 line, .int .i64 twice, .int .i64 odd] := by rw [← hxe]; rfl
    rw [hxv] at hRC hFi
    have hw : ∀ st, wRow v x st = { elem := 44, cs := [v, .int .i64 xw, .int .i64 tol, .int .i64 line, .int .i64 twice, .int .i64 odd, .int .i64 st.left, .int .i64 st.least, .bool st.has], room := 9, fz := false, flat := false } := fun st => by rw [← hxe]; rfl
    obtain ⟨left, least, has⟩ := st
    dsimp only at hl0 hl3 hz hE hF
    simp only [hw] at ih ⊢
    rcases hv.forms with ⟨vb, vo, vc, rfl⟩ | ⟨rfl, rfl⟩
    · rcases id hu with ⟨ub, uo, uc, rfl, hu63, hur⟩ | ⟨rfl, hue⟩
      all_goals
        refine CA.go hT Try.func22 Try.ntmps22 ?_
        iterate 2 (refine sq ?_)
        refine rg ?_
        iterate 2 (refine st (h := O) ?_)
        refine st (h := sdFA) ?_
        refine st (h := sdL) ?_
        refine st (h := O) ?_
        refine nl ?_
        refine cD (fun c0 => ?_) (fun c0 => ?_)
        · refine rtA [(500001, _)] ⟨rfl, rfl, ?_⟩
          rw [hz c0]
        · refine sk ?_
          refine sq ?_
          refine rg ?_
          iterate 2 (refine st (h := O) ?_)
          refine st (h := sdFA) ?_
          refine st (h := sdL) ?_
          refine st (h := sdS) ?_
          refine st (h := O) ?_
          refine st (h := sdFA) ?_
          refine so ?_
          refine nl ?_
          refine sq ?_
          refine rg ?_
          refine st (h := O) ?_
          refine nl ?_
          iterate 2 (refine sq ?_)
          refine rg ?_
          iterate 3 (refine st (h := O) ?_)
          refine nl ?_
          refine cD (fun c1 => ?_) (fun c1 => ?_)
          · try (exfalso; simp at c1; done)
            all_goals
              have hlk : look F ⟨ub, uo + ((at'.length : Int) - 1).toNat * 1, none⟩ = some (.int .i64 a) := by
                rw [Nat.mul_one, hla (by omega)]
                have := hur (at'.length - 1) _ (ints_get (by omega))
                rwa [show ((at'.length : Int) - 1).toNat = at'.length - 1 from by omega]
              refine rg ?_
              iterate 3 (refine st (h := O) ?_)
              refine st (h := sdS) ?_
              refine st (h := (sdX (z := 1))) ?_
              refine st (h := (by first | exact sdLG | exact sdW)) ?_
              refine st (h := O) ?_
              refine nl ?_
              iterate 2 (refine sq ?_)
              refine rg ?_
              iterate 3 (refine st (h := O) ?_)
              refine st (h := sdFA) ?_
              refine st (h := sdL) ?_
              refine st (h := O) ?_
              refine st (h := sdS) ?_
              refine st (h := O) ?_
              refine nl ?_
              refine cD (fun c2 => ?_) (fun c2 => ?_)
              · have hE2 := hE c0 c2
                refine sq ?_
                refine dr 15 [500001] [0, 1, 2, 3, 4, 5, 6, 7, 8, 1009, 10, 11, 12, 13, 14] ?_
                iterate 2 (refine dt (hv := by exact O) ?_)
                refine dt (hv := by exact sdFA) ?_
                refine dt (hv := by exact sdL) ?_
                iterate 3 (refine dt (hv := by exact O) ?_)
                refine dt (hv := by exact sdFA) ?_
                refine dt (hv := by exact sdLN) ?_
                refine dcl (hkp := by first | exact Kept.all | exact Kept.k0 | exact Kept.kY | exact Kept.kYY | exact Kept.kY3) (h := by exact fun ι hV hl => hRC _ _ _ (hv.le hl) (hu.le hl)) ?_
                iterate 5 (refine dt (hv := by exact O) ?_)
                refine dn ?_
                iterate 2 (refine sq ?_)
                refine rg ?_
                iterate 2 (refine st (h := O) ?_)
                refine gB (fun g51 => ?_) (fun g51 => ?_)
                · subst g51
                  iterate 2 (refine sg (h := O) ?_)
                  refine sg (h := sdFA) ?_
                  refine sg (h := sdL) ?_
                  iterate 2 (refine sg (h := O) ?_)
                  refine gB (fun g57 => ?_) (fun g57 => ?_)
                  · have hh : has = false := by simpa using g57
                    subst hh
                    rw [if_pos ⟨rfl, .inl rfl⟩] at hE2
                    iterate 6 (refine sp ?_)
                    refine sg (h := O) ?_
                    refine st (h := O) ?_
                    refine nl ?_
                    refine cT ?_
                    refine rg ?_
                    iterate 4 (refine st (h := O) ?_)
                    refine st (h := sdFA) ?_
                    refine so ?_
                    refine st (h := O) ?_
                    refine st (h := sdFA) ?_
                    refine so ?_
                    refine nl ?_
                    refine rtA [(500001, _)] ⟨rfl, rfl, ?_⟩
                    rw [hE2]
                    rfl
                  · have hh : has = true := by simpa using g57
                    subst hh
                    iterate 3 (refine sg (h := O) ?_)
                    refine sg (h := sdFA) ?_
                    refine sg (h := sdL) ?_
                    iterate 2 (refine sg (h := O) ?_)
                    refine st (h := O) ?_
                    refine nl ?_
                    refine cD (fun c3 => ?_) (fun c3 => ?_)
                    · rw [if_pos ⟨rfl, .inr c3⟩] at hE2
                      refine rg ?_
                      iterate 4 (refine st (h := O) ?_)
                      refine st (h := sdFA) ?_
                      refine so ?_
                      refine st (h := O) ?_
                      refine st (h := sdFA) ?_
                      refine so ?_
                      refine nl ?_
                      refine rtA [(500001, _)] ⟨rfl, rfl, ?_⟩
                      rw [hE2]
                      rfl
                    · rw [if_neg (by rintro ⟨_, h | h⟩; · cases h
                                     · exact c3 h)] at hE2
                      refine sk ?_
                      refine rtA [(500001, _)] ⟨rfl, rfl, ?_⟩
                      rw [hE2]
                      rfl
                · rw [if_neg (by rintro ⟨h, _⟩; exact absurd (h.symm.trans g51) (by decide))] at hE2
                  iterate 6 (refine sp ?_)
                  iterate 6 (refine su ?_)
                  refine sp ?_
                  refine st (h := O) ?_
                  refine nl ?_
                  refine cF ?_
                  refine sk ?_
                  refine rtA [(500001, _)] ⟨rfl, rfl, ?_⟩
                  rw [hE2]
                  rfl
              · have hF2 := hF c0 c2
                obtain ⟨a1, ha1⟩ := Int.eq_ofNat_of_zero_le (show (0 : Int) ≤ a + 1 by omega)
                have e1 : (a + 1).toNat = a1 := by omega
                rw [e1] at hF2
                refine sk ?_
                refine sq ?_
                refine rg ?_
                refine st (h := O) ?_
                refine st (h := sdA) ?_
                refine st (h := O) ?_
                refine nl ?_
                refine bl ?_
                refine J.loop2 (α := Int) (β := Tri) (fun b s => (a1 : Int) ≤ b ∧ b ≤ l.length ∧ (0 ≤ s.left ∧ s.left ≤ 3000) ∧ s = tryF (fun b st => if fitsD l a b x = true then tryD l x d (at' ++ [(b : Int)]) st else st) a1 (b - a1).toNat ⟨left - 1, least, has⟩) (fun b s => [(7, .int .i64 b)]) [(0, _), (1, _), (4, _)] (fun b s => [(500001, { elem := 44, cs := [.slice (some ⟨vb, vo, none⟩) l.length vc, .int .i64 xw, .int .i64 tol, .int .i64 line, .int .i64 twice, .int .i64 odd, .int .i64 s.left, .int .i64 s.least, .bool s.has], room := 9, fz := false, flat := false })]) [] (fun b s => (l.length - b).toNat) (_) (⟨left - 1, least, has⟩) (by exact ⟨rfl, trivial⟩) (by exact ⟨rfl, rfl, rfl, trivial⟩) (by exact ⟨rfl, rfl, trivial⟩) ?_ ?_
                · refine ⟨by omega, by omega, ⟨by dsimp only; omega, by dsimp only; omega⟩, ?_⟩
                  rw [show (a + 1 - (a1 : Int)).toNat = 0 from by omega]
                  rfl
                · intro b s L1 K1 e1 e2 hI
                  dsimp only [apV, apR, List.cons_append, List.nil_append] at e1 e2
                  subst e1 e2
                  obtain ⟨hb0, hb1, hsl, hs⟩ := hI
                  iterate 2 (refine sq ?_)
                  refine rg ?_
                  iterate 3 (refine st (h := O) ?_)
                  refine st (h := sdFA) ?_
                  refine st (h := sdL) ?_
                  iterate 2 (refine st (h := O) ?_)
                  refine nl ?_
                  refine cD (fun c4 => ?_) (fun c4 => ?_)
                  · obtain ⟨b1, rfl⟩ := Int.eq_ofNat_of_zero_le (show (0 : Int) ≤ b by omega)
                    obtain ⟨m, rfl⟩ : ∃ m, b1 = a1 + m := ⟨b1 - a1, by omega⟩
                    rw [show ((a1 + m : Nat) : Int) - a1 = m from by omega, Int.toNat_natCast] at hs
                    refine sk ?_
                    refine sq ?_
                    refine bl ?_
                    refine sq ?_
                    refine dr 11 [500001] [0, 1, 2, 3, 4, 5, 6, 7, 8, 9, 1010] ?_
                    iterate 2 (refine dt (hv := by exact O) ?_)
                    refine dt (hv := by exact sdFA) ?_
                    refine dt (hv := by exact sdL) ?_
                    iterate 4 (refine dt (hv := by exact O) ?_)
                    refine dt (hv := by exact sdFA) ?_
                    refine dt (hv := by exact sdLN) ?_
                    refine dcl (hkp := by first | exact Kept.all | exact Kept.k0 | exact Kept.kY | exact Kept.kYY | exact Kept.kY3) (h := by exact fun ι hV hl => hFi _ _ _ _ (hv.le hl)) ?_
                    refine dn ?_
                    refine cB (fun c5 => ?_) (fun c5 => ?_)
                    · refine rg ?_
                      refine st (h := O) ?_
                      refine sl ?_
                      refine st (h := O) ?_
                      refine apIs0 (xs := at') 1098 96 [(0, _), (1, _), (4, _), (7, _), (95, _)] [(500001, _)] hu ?_
                      intro cap98 hc98 hd98
                      refine st (h := O) ?_
                      refine sl ?_
                      refine apO (news := [_]) 1101 96 [(0, _), (1, _), (4, _), (7, _), (95, _)] [(500001, _)] ?_ (hol := by simp [ivs])
                      intro cap101 hc101 hd101
                      refine clA [500001] [500001] [500001, 96] [(0, _), (1, _), (4, _), (7, _)] [(500001, _)] [(96, _)] (h := by exact fun ι hV hl => ih _ _ (at' ++ [((a1 + m : Nat) : Int)]) s (hv.le hl) (hV.intsR (t := 96) rfl (by rw [ivs_snoc]) (by simp) (by simp; omega)) (by rw [lastO_snoc]; omega) (by rw [lastO_snoc]; omega) (by rw [lastO_snoc]; omega) (by rw [lastO_snoc]; simp; omega) hsl.1 hsl.2) ?_
                      intro r3 Y3 K3 hQ3 hp3 hN3
                      obtain ⟨rfl, rfl, rfl⟩ := hQ3
                      rw [Mem.add_nil]
                      have hgl := hgF (a1 + m) s hsl.1
                      refine nl ?_
                      refine bk ?_
                      refine rg ?_
                      refine st (h := O) ?_
                      refine st (h := sdA) ?_
                      refine st (h := O) ?_
                      refine nl ?_
                      refine bk2 (_) (tryD l x d (at' ++ [((a1 + m : Nat) : Int)]) s) (by exact ⟨rfl, trivial⟩) (by exact ⟨rfl, rfl, rfl, trivial⟩) (by exact ⟨rfl, rfl, trivial⟩) ?_ ?_
                      · omega
                      · refine ⟨by omega, by omega, ⟨hgl.1, Int.le_trans hgl.2 hsl.2⟩, ?_⟩
                        rw [show (((a1 + m : Nat) : Int) + 1 - a1).toNat = m + 1 from by omega]
                        show _ = if fitsD l a ((a1 + m : Nat) : Int) x = true then _ else _
                        rw [if_pos c5, hs]
                    · refine sk ?_
                      refine bk ?_
                      refine rg ?_
                      refine st (h := O) ?_
                      refine st (h := sdA) ?_
                      refine st (h := O) ?_
                      refine nl ?_
                      refine bk2 (_) (s) (by exact ⟨rfl, trivial⟩) (by exact ⟨rfl, rfl, rfl, trivial⟩) (by exact ⟨rfl, rfl, trivial⟩) ?_ ?_
                      · omega
                      · refine ⟨by omega, by omega, by omega, ?_⟩
                        rw [show (((a1 + m : Nat) : Int) + 1 - a1).toNat = m + 1 from by omega]
                        show _ = if fitsD l a ((a1 + m : Nat) : Int) x = true then _ else _
                        rw [if_neg (by rw [c5]; decide)]
                        exact hs
                  · refine ex ?_
                    obtain rfl : b = l.length := by omega
                    refine reA [(500001, _)] ⟨rfl, rfl, ?_⟩
                    rw [hF2, hs, show ((l.length : Int) - a1).toNat = l.length - a1 from by omega]
          · have ha1 : a = -1 := by first | exact hl00 (by omega) | exact hl00 (by rw [hue]; rfl)
            rw [← ha1]
            refine sk ?_
            iterate 2 (refine sq ?_)
            refine rg ?_
            iterate 3 (refine st (h := O) ?_)
            refine st (h := sdFA) ?_
            refine st (h := sdL) ?_
            refine st (h := O) ?_
            refine st (h := sdS) ?_
            refine st (h := O) ?_
            refine nl ?_
            refine cD (fun c2 => ?_) (fun c2 => ?_)
            · have hE2 := hE c0 c2
              refine sq ?_
              refine dr 15 [500001] [0, 1, 2, 3, 4, 5, 6, 7, 8, 1009, 10, 11, 12, 13, 14] ?_
              iterate 2 (refine dt (hv := by exact O) ?_)
              refine dt (hv := by exact sdFA) ?_
              refine dt (hv := by exact sdL) ?_
              iterate 3 (refine dt (hv := by exact O) ?_)
              refine dt (hv := by exact sdFA) ?_
              refine dt (hv := by exact sdLN) ?_
              refine dcl (hkp := by first | exact Kept.all | exact Kept.k0 | exact Kept.kY | exact Kept.kYY | exact Kept.kY3) (h := by exact fun ι hV hl => hRC _ _ _ (hv.le hl) (hu.le hl)) ?_
              iterate 5 (refine dt (hv := by exact O) ?_)
              refine dn ?_
              iterate 2 (refine sq ?_)
              refine rg ?_
              iterate 2 (refine st (h := O) ?_)
              refine gB (fun g51 => ?_) (fun g51 => ?_)
              · subst g51
                iterate 2 (refine sg (h := O) ?_)
                refine sg (h := sdFA) ?_
                refine sg (h := sdL) ?_
                iterate 2 (refine sg (h := O) ?_)
                refine gB (fun g57 => ?_) (fun g57 => ?_)
                · have hh : has = false := by simpa using g57
                  subst hh
                  rw [if_pos ⟨rfl, .inl rfl⟩] at hE2
                  iterate 6 (refine sp ?_)
                  refine sg (h := O) ?_
                  refine st (h := O) ?_
                  refine nl ?_
                  refine cT ?_
                  refine rg ?_
                  iterate 4 (refine st (h := O) ?_)
                  refine st (h := sdFA) ?_
                  refine so ?_
                  refine st (h := O) ?_
                  refine st (h := sdFA) ?_
                  refine so ?_
                  refine nl ?_
                  refine rtA [(500001, _)] ⟨rfl, rfl, ?_⟩
                  rw [hE2]
                  rfl
                · have hh : has = true := by simpa using g57
                  subst hh
                  iterate 3 (refine sg (h := O) ?_)
                  refine sg (h := sdFA) ?_
                  refine sg (h := sdL) ?_
                  iterate 2 (refine sg (h := O) ?_)
                  refine st (h := O) ?_
                  refine nl ?_
                  refine cD (fun c3 => ?_) (fun c3 => ?_)
                  · rw [if_pos ⟨rfl, .inr c3⟩] at hE2
                    refine rg ?_
                    iterate 4 (refine st (h := O) ?_)
                    refine st (h := sdFA) ?_
                    refine so ?_
                    refine st (h := O) ?_
                    refine st (h := sdFA) ?_
                    refine so ?_
                    refine nl ?_
                    refine rtA [(500001, _)] ⟨rfl, rfl, ?_⟩
                    rw [hE2]
                    rfl
                  · rw [if_neg (by rintro ⟨_, h | h⟩; · cases h
                                   · exact c3 h)] at hE2
                    refine sk ?_
                    refine rtA [(500001, _)] ⟨rfl, rfl, ?_⟩
                    rw [hE2]
                    rfl
              · rw [if_neg (by rintro ⟨h, _⟩; exact absurd (h.symm.trans g51) (by decide))] at hE2
                iterate 6 (refine sp ?_)
                iterate 6 (refine su ?_)
                refine sp ?_
                refine st (h := O) ?_
                refine nl ?_
                refine cF ?_
                refine sk ?_
                refine rtA [(500001, _)] ⟨rfl, rfl, ?_⟩
                rw [hE2]
                rfl
            · have hF2 := hF c0 c2
              obtain ⟨a1, ha1⟩ := Int.eq_ofNat_of_zero_le (show (0 : Int) ≤ a + 1 by omega)
              have e1 : (a + 1).toNat = a1 := by omega
              rw [e1] at hF2
              refine sk ?_
              refine sq ?_
              refine rg ?_
              refine st (h := O) ?_
              refine st (h := sdA) ?_
              refine st (h := O) ?_
              refine nl ?_
              refine bl ?_
              refine J.loop2 (α := Int) (β := Tri) (fun b s => (a1 : Int) ≤ b ∧ b ≤ l.length ∧ (0 ≤ s.left ∧ s.left ≤ 3000) ∧ s = tryF (fun b st => if fitsD l a b x = true then tryD l x d (at' ++ [(b : Int)]) st else st) a1 (b - a1).toNat ⟨left - 1, least, has⟩) (fun b s => [(7, .int .i64 b)]) [(0, _), (1, _), (4, _)] (fun b s => [(500001, { elem := 44, cs := [.slice (some ⟨vb, vo, none⟩) l.length vc, .int .i64 xw, .int .i64 tol, .int .i64 line, .int .i64 twice, .int .i64 odd, .int .i64 s.left, .int .i64 s.least, .bool s.has], room := 9, fz := false, flat := false })]) [] (fun b s => (l.length - b).toNat) (_) (⟨left - 1, least, has⟩) (by exact ⟨rfl, trivial⟩) (by exact ⟨rfl, rfl, rfl, trivial⟩) (by exact ⟨rfl, rfl, trivial⟩) ?_ ?_
              · refine ⟨by omega, by omega, ⟨by dsimp only; omega, by dsimp only; omega⟩, ?_⟩
                rw [show (a + 1 - (a1 : Int)).toNat = 0 from by omega]
                rfl
              · intro b s L1 K1 e1 e2 hI
                dsimp only [apV, apR, List.cons_append, List.nil_append] at e1 e2
                subst e1 e2
                obtain ⟨hb0, hb1, hsl, hs⟩ := hI
                iterate 2 (refine sq ?_)
                refine rg ?_
                iterate 3 (refine st (h := O) ?_)
                refine st (h := sdFA) ?_
                refine st (h := sdL) ?_
                iterate 2 (refine st (h := O) ?_)
                refine nl ?_
                refine cD (fun c4 => ?_) (fun c4 => ?_)
                · obtain ⟨b1, rfl⟩ := Int.eq_ofNat_of_zero_le (show (0 : Int) ≤ b by omega)
                  obtain ⟨m, rfl⟩ : ∃ m, b1 = a1 + m := ⟨b1 - a1, by omega⟩
                  rw [show ((a1 + m : Nat) : Int) - a1 = m from by omega, Int.toNat_natCast] at hs
                  refine sk ?_
                  refine sq ?_
                  refine bl ?_
                  refine sq ?_
                  refine dr 11 [500001] [0, 1, 2, 3, 4, 5, 6, 7, 8, 9, 1010] ?_
                  iterate 2 (refine dt (hv := by exact O) ?_)
                  refine dt (hv := by exact sdFA) ?_
                  refine dt (hv := by exact sdL) ?_
                  iterate 4 (refine dt (hv := by exact O) ?_)
                  refine dt (hv := by exact sdFA) ?_
                  refine dt (hv := by exact sdLN) ?_
                  refine dcl (hkp := by first | exact Kept.all | exact Kept.k0 | exact Kept.kY | exact Kept.kYY | exact Kept.kY3) (h := by exact fun ι hV hl => hFi _ _ _ _ (hv.le hl)) ?_
                  refine dn ?_
                  refine cB (fun c5 => ?_) (fun c5 => ?_)
                  · refine rg ?_
                    refine st (h := O) ?_
                    refine sl ?_
                    refine st (h := O) ?_
                    refine apIs0 (xs := at') 1098 96 [(0, _), (1, _), (4, _), (7, _), (95, _)] [(500001, _)] hu ?_
                    intro cap98 hc98 hd98
                    refine st (h := O) ?_
                    refine sl ?_
                    refine apO (news := [_]) 1101 96 [(0, _), (1, _), (4, _), (7, _), (95, _)] [(500001, _)] ?_ (hol := by simp [ivs])
                    intro cap101 hc101 hd101
                    refine clA [500001] [500001] [500001, 96] [(0, _), (1, _), (4, _), (7, _)] [(500001, _)] [(96, _)] (h := by exact fun ι hV hl => ih _ _ (at' ++ [((a1 + m : Nat) : Int)]) s (hv.le hl) (hV.intsR (t := 96) rfl (by rw [ivs_snoc]) (by simp) (by simp; omega)) (by rw [lastO_snoc]; omega) (by rw [lastO_snoc]; omega) (by rw [lastO_snoc]; omega) (by rw [lastO_snoc]; simp; omega) hsl.1 hsl.2) ?_
                    intro r3 Y3 K3 hQ3 hp3 hN3
                    obtain ⟨rfl, rfl, rfl⟩ := hQ3
                    rw [Mem.add_nil]
                    have hgl := hgF (a1 + m) s hsl.1
                    refine nl ?_
                    refine bk ?_
                    refine rg ?_
                    refine st (h := O) ?_
                    refine st (h := sdA) ?_
                    refine st (h := O) ?_
                    refine nl ?_
                    refine bk2 (_) (tryD l x d (at' ++ [((a1 + m : Nat) : Int)]) s) (by exact ⟨rfl, trivial⟩) (by exact ⟨rfl, rfl, rfl, trivial⟩) (by exact ⟨rfl, rfl, trivial⟩) ?_ ?_
                    · omega
                    · refine ⟨by omega, by omega, ⟨hgl.1, Int.le_trans hgl.2 hsl.2⟩, ?_⟩
                      rw [show (((a1 + m : Nat) : Int) + 1 - a1).toNat = m + 1 from by omega]
                      show _ = if fitsD l a ((a1 + m : Nat) : Int) x = true then _ else _
                      rw [if_pos c5, hs]
                  · refine sk ?_
                    refine bk ?_
                    refine rg ?_
                    refine st (h := O) ?_
                    refine st (h := sdA) ?_
                    refine st (h := O) ?_
                    refine nl ?_
                    refine bk2 (_) (s) (by exact ⟨rfl, trivial⟩) (by exact ⟨rfl, rfl, rfl, trivial⟩) (by exact ⟨rfl, rfl, trivial⟩) ?_ ?_
                    · omega
                    · refine ⟨by omega, by omega, by omega, ?_⟩
                      rw [show (((a1 + m : Nat) : Int) + 1 - a1).toNat = m + 1 from by omega]
                      show _ = if fitsD l a ((a1 + m : Nat) : Int) x = true then _ else _
                      rw [if_neg (by rw [c5]; decide)]
                      exact hs
                · refine ex ?_
                  obtain rfl : b = l.length := by omega
                  refine reA [(500001, _)] ⟨rfl, rfl, ?_⟩
                  rw [hF2, hs, show ((l.length : Int) - a1).toNat = l.length - a1 from by omega]
    · cases hg

end Go.Proofs.Ytbeblgjibfoanaa.Am
namespace Go.Proofs.Ytbeblgjibfoanaa.Am
set_option linter.unusedSimpArgs false
set_option linter.unusedVariables false
set_option maxRecDepth 100000
set_option maxHeartbeats 4000000
open Go Go.RowKit
theorem wayD_app {l : List Item} {x : Par} : ∀ (p : List Int) (a0 cls sum c b : Int) (rest : List Int), wayD l x (p ++ b :: rest) a0 cls sum = (c, true) → lastO a0 p < b ∧ legalB l b = true ∧ (judD l x (lastO a0 p + 1).toNat b.toNat).fits = true ∧ (lastO a0 p = a0 ∨ legalB l (lastO a0 p) = true)
  | [], a0, cls, sum, c, b, rest, h => by
    obtain ⟨h1, h2, h3, _⟩ := wayD_cons h
    exact ⟨h1, h2, h3, .inl rfl⟩
  | b0 :: p, a0, cls, sum, c, b, rest, h => by
    obtain ⟨h1, h2, h3, h4⟩ := wayD_cons (show wayD l x (b0 :: (p ++ b :: rest)) a0 cls sum = (c, true) from h)
    obtain ⟨g1, g2, g3, g4⟩ := wayD_app p b0 _ _ c b rest h4
    refine ⟨g1, g2, g3, .inr ?_⟩
    simp only [lastO] at g4 ⊢
    rcases g4 with g4 | g4
    · rw [g4]; exact h2
    · exact g4
theorem lastO_app : ∀ (p : List Int) (a b : Int) (r : List Int), lastO a (p ++ b :: r) = lastO b r
  | [], _, _, _ => rfl
  | _ :: p, _, b, r => lastO_app p _ b r
section
variable {l : List Item} {x : Par}
def Snd (l : List Item) (x : Par) (st : Tri) : Prop := st.has = true → ∃ at', costD l at' x = (st.least, true)
def Mono (st st' : Tri) : Prop := st.has = true → st'.has = true ∧ st'.least ≤ st.least
theorem Mono.refl (st : Tri) : Mono st st := fun h => ⟨h, Int.le_refl _⟩
theorem Mono.trans {a b c : Tri} (h : Mono a b) (g : Mono b c) : Mono a c := fun h1 => by
  obtain ⟨h2, h3⟩ := h h1
  obtain ⟨h4, h5⟩ := g h2
  exact ⟨h4, by omega⟩
theorem tryF_keep {g : Nat → Tri → Tri} {a1 : Nat} {p : Tri → Prop} (h : ∀ b st, p st → p (g b st)) : ∀ m st, p st → p (tryF g a1 m st)
  | 0, st, h0 => h0
  | m + 1, st, h0 => h _ _ (tryF_keep h m st h0)
theorem tryF_mono {g : Nat → Tri → Tri} {a1 : Nat} (h : ∀ b st, Mono st (g b st)) : ∀ m k st, Mono (tryF g a1 m st) (tryF g a1 (m + k) st)
  | m, 0, st => Mono.refl _
  | m, k + 1, st => (tryF_mono h m k st).trans (h _ _)
theorem tryEnd_snd (at' : List Int) (st : Tri) (h : Snd l x st) : Snd l x (tryEnd l x at' st) := by
  unfold tryEnd
  split
  · rename_i hc
    exact fun _ => ⟨at', by rw [← hc.1]⟩
  · exact fun hs => h hs
theorem tryEnd_mono (at' : List Int) (st : Tri) : Mono st (tryEnd l x at' st) := by
  intro hs
  unfold tryEnd
  split
  · rename_i hc
    refine ⟨rfl, ?_⟩
    rcases hc.2 with h | h
    · rw [h] at hs; cases hs
    · dsimp only; omega
  · exact ⟨hs, Int.le_refl _⟩
theorem tryD_snd : ∀ d (at' : List Int) (st : Tri), Snd l x st → Snd l x (tryD l x d at' st)
  | 0, _, _, h => h
  | d + 1, at', st, h => by
    simp only [tryD]
    split
    · exact h
    · split
      · exact tryEnd_snd at' st h
      · refine tryF_keep (fun b st h => ?_) _ _ h
        split
        · exact tryD_snd d _ st h
        · exact h
theorem tryD_mono : ∀ d (at' : List Int) (st : Tri), Mono st (tryD l x d at' st)
  | 0, _, st => Mono.refl st
  | d + 1, at', st => by
    simp only [tryD]
    split
    · exact Mono.refl st
    · split
      · exact tryEnd_mono at' st
      · have := tryF_mono (g := fun b st => if fitsD l (lastO (-1) at') b x = true then tryD l x d (at' ++ [(b : Int)]) st else st) (a1 := (lastO (-1) at' + 1).toNat) (fun b st => by
          split
          · exact tryD_mono d _ st
          · exact Mono.refl st) 0 (l.length - (lastO (-1) at' + 1).toNat) ⟨st.left - 1, st.least, st.has⟩
        rw [Nat.zero_add] at this
        exact fun hs => this hs
theorem tryF_lefts {g : Nat → Tri → Tri} {a1 : Nat} (h : ∀ b st, 0 ≤ st.left → 0 ≤ (g b st).left ∧ (g b st).left ≤ st.left) : ∀ m k st, 0 ≤ st.left → (tryF g a1 (m + k) st).left ≤ (tryF g a1 m st).left
  | m, 0, st, _ => Int.le_refl _
  | m, k + 1, st, h0 => by
    have h1 := tryF_lefts h (a1 := a1) m k st h0
    have h2 := tryF_left h (a1 := a1) (m + k) st h0
    have h3 := h (a1 + (m + k)) _ h2.1
    show (g (a1 + (m + k)) (tryF g a1 (m + k) st)).left ≤ _
    omega
/-- if steps are left, every way was tried -/
theorem tryD_all (hg : goodL l = true) (hx : x.good = true) : ∀ d (at' : List Int) (st : Tri) (rest : List Int) (c : Int), 0 ≤ st.left → (tryD l x d at' st).left ≠ 0 → -1 ≤ lastO (-1) at' → (l.length : Int) - lastO (-1) at' ≤ d → lastO (-1) at' < l.length → costD l (at' ++ rest) x = (c, true) →
    (tryD l x d at' st).has = true ∧ (tryD l x d at' st).least ≤ c
  | 0, at', st, rest, c, _, _, _, h, h2, _ => by omega
  | d + 1, at', st, rest, c, h0, hne, hlo, hd, hhi, hc => by
    have hc' := hc
    unfold costD at hc'
    split at hc'
    · rename_i hcc
      obtain ⟨_, _, hp, hlast⟩ := hcc
      rw [← lastO_ints _ (-1) hp] at hlast
      simp only [tryD] at hne ⊢
      by_cases hl : st.left = 0
      · rw [if_pos hl] at hne
        exact absurd hl hne
      · rw [if_neg hl] at hne ⊢
        by_cases he : lastO (-1) at' = (l.length : Int) - 1
        · rw [if_pos he] at hne ⊢
          cases rest with
          | nil =>
            rw [List.append_nil] at hc
            unfold tryEnd
            rw [hc]
            dsimp only
            split
            · exact ⟨rfl, Int.le_refl _⟩
            · rename_i hn
              have h1 : ¬ st.has = false := fun h => hn ⟨rfl, .inl h⟩
              have h2 : ¬ c < st.least := fun h => hn ⟨rfl, .inr h⟩
              exact ⟨by simpa using h1, by dsimp only; omega⟩
          | cons b rest =>
            obtain ⟨g1, g2, _, _⟩ := wayD_app at' (-1) 1 0 c b rest hc'
            have := legal_lt g2
            omega
        · rw [if_neg he] at hne ⊢
          cases rest with
          | nil =>
            rw [List.append_nil] at hlast
            exact absurd hlast he
          | cons b rest =>
            obtain ⟨g1, g2, g3, g4⟩ := wayD_app at' (-1) 1 0 c b rest hc'
            have hbl := legal_lt g2
            obtain ⟨b', rfl⟩ := Int.eq_ofNat_of_zero_le hbl.1
            have hfit : fitsD l (lastO (-1) at') b' x = true := by
              simp only [fitsD, hx, Bool.true_and, Bool.and_eq_true]
              refine ⟨?_, g3⟩
              rw [lineB_iff]
              exact ⟨by rw [hg, g2]; rfl, g1, g4.imp id fun h => by rw [hg, h]; rfl⟩
            generalize hg' : (fun (b : Nat) (st : Tri) => if fitsD l (lastO (-1) at') b x = true then tryD l x d (at' ++ [(b : Int)]) st else st) = g at *
            have hgl : ∀ b st, 0 ≤ st.left → 0 ≤ (g b st).left ∧ (g b st).left ≤ st.left := fun b st h => by
              subst hg'
              dsimp only
              split
              · exact tryD_left l x d _ st h
              · exact ⟨h, Int.le_refl _⟩
            have hgm : ∀ b st, Mono st (g b st) := fun b st => by
              subst hg'
              dsimp only
              split
              · exact tryD_mono d _ st
              · exact Mono.refl st
            obtain ⟨m, hm⟩ : ∃ m, b' = (lastO (-1) at' + 1).toNat + m := ⟨b' - (lastO (-1) at' + 1).toNat, by omega⟩
            obtain ⟨k, hk⟩ : ∃ k, l.length - (lastO (-1) at' + 1).toNat = m + 1 + k := ⟨l.length - (lastO (-1) at' + 1).toNat - (m + 1), by omega⟩
            rw [hk] at hne ⊢
            have h00 : (0 : Int) ≤ (⟨st.left - 1, st.least, st.has⟩ : Tri).left := by dsimp only; omega
            have hleft := tryF_lefts hgl (a1 := (lastO (-1) at' + 1).toNat) (m + 1) k ⟨st.left - 1, st.least, st.has⟩ h00
            have hpos := tryF_left hgl (a1 := (lastO (-1) at' + 1).toNat) (m + 1 + k) ⟨st.left - 1, st.least, st.has⟩ h00
            have hposm := tryF_left hgl (a1 := (lastO (-1) at' + 1).toNat) m ⟨st.left - 1, st.least, st.has⟩ h00
            have hstep : tryF g (lastO (-1) at' + 1).toNat (m + 1) ⟨st.left - 1, st.least, st.has⟩ = tryD l x d (at' ++ [(b' : Int)]) (tryF g (lastO (-1) at' + 1).toNat m ⟨st.left - 1, st.least, st.has⟩) := by
              show g _ _ = _
              rw [← hm]
              conv => lhs; rw [← hg']
              dsimp only
              rw [if_pos hfit, hg']
            have ih := tryD_all hg hx d (at' ++ [(b' : Int)]) (tryF g (lastO (-1) at' + 1).toNat m ⟨st.left - 1, st.least, st.has⟩) rest c hposm.1 (by rw [← hstep]; omega) (by rw [lastO_snoc]; omega) (by rw [lastO_snoc]; omega) (by rw [lastO_snoc]; omega) (by rw [List.append_assoc]; exact hc)
            rw [← hstep] at ih
            obtain ⟨q1, q2⟩ := tryF_mono hgm (a1 := (lastO (-1) at' + 1).toNat) (m + 1) k ⟨st.left - 1, st.least, st.has⟩ ih.1
            exact ⟨q1, by have := ih.2; omega⟩
    · simp at hc'
theorem try_best (hg : goodL l = true) {k : Int} (hk : 0 ≤ k) (h : (tryD l x (l.length + 1) [] ⟨k, 0, false⟩).left ≠ 0) : (tryD l x (l.length + 1) [] ⟨k, 0, false⟩).has = (bestD l x).2.2 ∧ ((bestD l x).2.2 = true → (bestD l x).2.1 = (tryD l x (l.length + 1) [] ⟨k, 0, false⟩).least) := by
  have hs : Snd l x (tryD l x (l.length + 1) [] ⟨k, 0, false⟩) := tryD_snd _ _ _ (fun h => by cases h)
  have hlen := good_len hg
  have ha : (bestD l x).2.2 = true → (tryD l x (l.length + 1) [] ⟨k, 0, false⟩).has = true ∧ (tryD l x (l.length + 1) [] ⟨k, 0, false⟩).least ≤ (bestD l x).2.1 := fun hb => by
    have hx : x.good = true := by
      unfold bestD at hb
      split at hb
      · rename_i hc; exact hc.2.1
      · cases hb
    exact tryD_all hg hx (l.length + 1) [] ⟨k, 0, false⟩ (bestD l x).1 _ hk h (by simp [lastO]) (by simp only [lastO]; omega) (by simp only [lastO]; omega) (by rw [List.nil_append]; exact best_cost hb)
  constructor
  · cases hb : (bestD l x).2.2 with
    | true => exact (ha hb).1
    | false =>
      cases ht : (tryD l x (l.length + 1) [] ⟨k, 0, false⟩).has with
      | false => rfl
      | true =>
        obtain ⟨at', hc⟩ := hs ht
        have := (least_way hc).1
        rw [hb] at this
        cases this
  · intro hb
    obtain ⟨h1, h2⟩ := ha hb
    obtain ⟨at', hc⟩ := hs h1
    have := (least_way hc).2
    omega
end

end Go.Proofs.Ytbeblgjibfoanaa.Am
