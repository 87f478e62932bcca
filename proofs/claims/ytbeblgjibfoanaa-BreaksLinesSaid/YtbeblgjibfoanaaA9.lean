/- Rules for walking Go functions with memory told by tags (A9). -/
import Derived.Test.YtbeblgjibfoanaaA8
namespace Go.Proofs.Ytbeblgjibfoanaa.Am
set_option linter.unusedSimpArgs false
set_option linter.unusedVariables false
open Go Go.RowKit
/-! A new block gets a tag that nothing speaks of. -/
def nt0 (t : Nat) : Value → Bool
  | .pointer (some a) => match a.spot with
    | some 0 => a.block != t
    | _ => true
  | .slice (some a) _ _ => match a.spot with
    | some 0 => a.block != t
    | _ => true
  | _ => true
def nt1 (t : Nat) : Value → Bool
  | .func _ f c => f.toList.all (nt0 t) && c.toList.all (nt0 t)
  | v => nt0 t v
def nt2 (t : Nat) : Value → Bool
  | .agg cs => cs.toList.all (nt1 t)
  | v => nt1 t v
def ntV (t : Nat) : Value → Bool
  | .tuple vs => vs.toList.all (nt2 t)
  | v => nt2 t v
def ntL (t : Nat) (L : Slots) : Bool := L.all fun x => ntV t x.2
def ntK (t : Nat) (K : Own) : Bool := K.all fun x => x.1 != t && (x.2.flat || x.2.cs.all (nt1 t))
def upd (ι : Nat → Nat) (t b : Nat) : Nat → Nat := fun x => if x = t then b else ι x
section
variable {ι κ : Nat → Nat} {t : Nat} (hk : ∀ u, u ≠ t → κ u = ι u)
include hk
theorem cA_nt {a : Addr} (h : (match a.spot with | some 0 => a.block != t | _ => true) = true) : cA κ a = cA ι a := by
  obtain ⟨b, o, s⟩ := a
  rcases s with _ | _ | s
  · rfl
  · simp only [bne_iff_ne, ne_eq] at h
    simp only [cA, hk _ h]
  · rfl
theorem rA_nt {a : Addr} (h : (match a.spot with | some 0 => a.block != t | _ => true) = true) : rA κ a = rA ι a := by
  obtain ⟨b, o, s⟩ := a
  rcases s with _ | _ | s
  · rfl
  · simp only [bne_iff_ne, ne_eq] at h
    simp only [rA, hk _ h]
  · rfl
theorem c0_nt {v : Value} (h : nt0 t v = true) : c0 κ v = c0 ι v := by
  cases v with
  | pointer a => cases a with
    | none => rfl
    | some a => simp only [c0, cA_nt hk h]
  | slice a n c => cases a with
    | none => rfl
    | some a => simp only [c0, cA_nt hk h]
  | _ => rfl
omit hk in
theorem map_nt {f g : Value → Value} {p : Value → Bool} (hfg : ∀ v, p v = true → f v = g v) {vs : Array Value} (h : vs.toList.all p = true) : vs.map f = vs.map g :=
  Array.map_congr_left fun v hv => hfg v (List.all_eq_true.1 h v (by simpa using hv))
theorem c1_nt {v : Value} (h : nt1 t v = true) : c1 κ v = c1 ι v := by
  cases v with
  | func fn x y =>
    simp only [nt1, Bool.and_eq_true] at h
    simp only [c1_func, map_nt (fun v => c0_nt hk) h.1, map_nt (fun v => c0_nt hk) h.2]
  | pointer a => exact c0_nt hk (by simpa only [nt1] using h)
  | slice a n c => exact c0_nt hk (by simpa only [nt1] using h)
  | _ => rfl
theorem c2_nt {v : Value} (h : nt2 t v = true) : c2 κ v = c2 ι v := by
  cases v with
  | agg cs => simp only [c2_agg, map_nt (fun v => c1_nt hk) (show cs.toList.all (nt1 t) = true from h)]
  | _ => exact c1_nt hk (by simpa only [nt2] using h)
theorem cV_nt {v : Value} (h : ntV t v = true) : cV κ v = cV ι v := by
  cases v with
  | tuple vs => simp only [cV_tuple, map_nt (fun v => c2_nt hk) (show vs.toList.all (nt2 t) = true from h)]
  | _ => exact c2_nt hk (by simpa only [ntV] using h)
theorem Row.c_nt {r : Row} (h : r.cs.all (nt1 t) = true) : r.c κ = r.c ι := by
  unfold Row.c
  rw [List.map_congr_left fun v hv => c1_nt hk (List.all_eq_true.1 h v hv)]
theorem Fr.nt {N : Nat} {L : Slots} {a : Act} (h : Fr N ι L a) (hL : ntL t L = true) : Fr N κ L a :=
  ⟨h.size, h.defers, fun s v hv => by rw [cV_nt hk (List.all_eq_true.1 hL _ (lookup_mem hv))]; exact h.slot s v hv⟩
end
theorem Row.c_flat {r : Row} (ι κ : Nat → Nat) (h : ∀ v ∈ r.cs, plain1 v = true) : r.c κ = r.c ι := by
  unfold Row.c
  rw [List.map_congr_left fun v hv => c1_plain κ ι (h v hv)]
theorem nt0_plain (t : Nat) {v : Value} (h : plain0 v = true) : nt0 t v = true := by
  cases v with
  | pointer a => cases a with
    | none => rfl
    | some a => obtain ⟨b, o, s⟩ := a; rcases s with _ | _ | s <;> first | rfl | cases h
  | slice a n c => cases a with
    | none => rfl
    | some a => obtain ⟨b, o, s⟩ := a; rcases s with _ | _ | s <;> first | rfl | cases h
  | _ => rfl
theorem nt1_plain (t : Nat) {v : Value} (h : plain1 v = true) : nt1 t v = true := by
  cases v with
  | func fn x y =>
    simp only [plain1, Bool.and_eq_true] at h
    have aux : ∀ l : Array Value, l.all plain0 = true → l.toList.all (nt0 t) = true := fun l hl =>
      List.all_eq_true.2 fun u hu => nt0_plain t ((Array.all_eq_true'.1 hl) u (by simpa using hu))
    simp only [nt1, Bool.and_eq_true]
    exact ⟨aux _ h.1, aux _ h.2⟩
  | agg cs => simp [plain1] at h
  | tuple cs => simp [plain1] at h
  | pointer a => exact nt0_plain t (by simpa only [plain1] using h)
  | slice a n c => exact nt0_plain t (by simpa only [plain1] using h)
  | _ => rfl
theorem upd_ne (ι : Nat → Nat) {t b u : Nat} (h : u ≠ t) : upd ι t b u = ι u := by simp [upd, h]
theorem upd_eq (ι : Nat → Nat) (t b : Nat) : upd ι t b t = b := by simp [upd]
theorem St.rowc {F : Mem} {ι : Nat → Nat} {K : Own} {w : World} (h : St F ι K w) {t b : Nat} (hK : ntK t K = true) {x : Nat × Row} (hx : x ∈ K) : x.1 ≠ t ∧ x.2.c (upd ι t b) = x.2.c ι := by
  have := List.all_eq_true.1 hK x hx
  simp only [Bool.and_eq_true, Bool.or_eq_true, bne_iff_ne, ne_eq] at this
  refine ⟨this.1, ?_⟩
  rcases this.2 with hf | hf
  · exact Row.c_flat _ _ ((h.own x hx).2.2 hf)
  · exact Row.c_nt (fun u hu => upd_ne ι hu) hf
theorem St.lt_own {F : Mem} {ι : Nat → Nat} {K : Own} {w : World} (h : St F ι K w) : ∀ b ∈ (K.map fun x => ι x.1) ++ F.ch.map Prod.fst, b < w.heap.size := by
  intro b hb
  rcases List.mem_append.1 hb with hb | hb
  · obtain ⟨x, hx, rfl⟩ := List.mem_map.1 hb
    exact (h.own x hx).2.1.lt
  · obtain ⟨x, hx, rfl⟩ := List.mem_map.1 hb
    exact (h.ext x hx).2.lt
theorem Holds.push {w w' : World} {b : Nat} {r : Row} (h : Holds w b r) {o : Obj} (e : w'.heap = w.heap.push o) : Holds w' b r :=
  h.congr (by rw [e, Array.getElem?_push, if_neg (by have := h.lt; omega)])
/-- a new block -/
theorem St.new {F : Mem} {ι : Nat → Nat} {K : Own} {w w' : World} (h : St F ι K w) {t : Nat} (hK : ntK t K = true) {r : Row} {o : Obj} (hw : w'.heap = w.heap.push o) (hos : w'.os = w.os) (htp : w'.tape = w.tape) (hou : w'.output = w.output)
    (hr : Holds w' w.heap.size (r.c (upd ι t w.heap.size))) (hflat : r.flat = true → ∀ v ∈ r.cs, plain1 v = true) : St F (upd ι t w.heap.size) ((t, r) :: K) w' := by
  have hmap : (K.map fun x => upd ι t w.heap.size x.1) = K.map fun x => ι x.1 := List.map_congr_left fun x hx => upd_ne ι (h.rowc (b := 0) hK hx).1
  refine ⟨?_, ?_, ?_, ?_⟩
  · have hb := h.below
    refine ⟨hos.trans hb.os, htp.trans hb.tape, hou.trans hb.output, by rw [hw, Array.size_push]; have := hb.size; omega, fun k hk => ?_⟩
    rw [hw, Array.getElem?_push, if_neg (by have := hb.size; omega)]
    exact hb.block k hk
  · simp only [List.map_cons, List.cons_append, hmap, upd_eq, List.nodup_cons]
    exact ⟨fun hm => by have := h.lt_own _ hm; omega, h.nodup⟩
  · intro x hx
    rcases List.mem_cons.1 hx with rfl | hx
    · simp only [upd_eq]
      exact ⟨h.below.size, hr, hflat⟩
    · obtain ⟨h1, h2⟩ := h.rowc (b := w.heap.size) hK hx
      obtain ⟨h3, h4, h5⟩ := h.own x hx
      rw [upd_ne ι h1, h2]
      exact ⟨h3, h4.push hw, h5⟩
  · intro x hx
    obtain ⟨h3, h4⟩ := h.ext x hx
    exact ⟨h3, h4.push hw⟩
/-- a draw -/
theorem St.same {F : Mem} {ι : Nat → Nat} {K : Own} {w w' : World} (h : St F ι K w) (hw : w'.heap = w.heap) (hos : w'.os = w.os) (htp : w'.tape = w.tape) (hou : w'.output = w.output) : St F ι K w' :=
  ⟨⟨hos.trans h.below.os, htp.trans h.below.tape, hou.trans h.below.output, by rw [hw]; exact h.below.size, fun k hk => by rw [hw]; exact h.below.block k hk⟩, h.nodup,
    fun x hx => ⟨(h.own x hx).1, (h.own x hx).2.1.congr (by rw [hw]), (h.own x hx).2.2⟩, fun x hx => ⟨(h.ext x hx).1, (h.ext x hx).2.congr (by rw [hw])⟩⟩
/-- What an operation does: a step to another state, of which T holds. -/
def Go1 (P : Program) (N : Nat) (D : List Nat) (F : Mem) (L : Slots) (K : Own) (o : Oper) (T : Mem → Slots → Own → Prop) : Prop :=
  ∀ (ι : Nat → Nat) (a : Act) (w : World), Fr N ι L a → St F ι K w → ∃ (ι' : Nat → Nat) (w' : World) (v : Value) (F' : Mem) (L' : Slots) (K' : Own),
    ((execOp a.eval o).run P w = .ok (.value v) w' ∨ ((execOp a.eval o).run P w = .ok .skip w' ∧ v = undef)) ∧ Fr N ι' L' (a.put o.dst v) ∧ St F' ι' K' w' ∧ (∀ t ∈ D, ι' t = ι t) ∧ T F' L' K'
section
variable {P : Program} {Θ : Tab} {N : Nat} {D : List Nat} {F : Mem} {K : Own} {L : Slots} {T : Mem → Slots → Own → Prop}
/-- an operation that leaves a value -/
theorem Go1.val {o : Oper} {v : Value} {d : Nat} (hd : o.dst = some d) (hN : d < N) (h : SD P F K L o.op v) (hT : T F ((d, v) :: L) K) : Go1 P N D F L K o T :=
  fun ι a w hF hS => ⟨ι, w, cV ι v, F, _, K, .inl (h ι a.eval (fun x u hu => hF.ev hu) o rfl w hS), by rw [hd]; exact hF.put hN v, hS, fun _ _ => rfl, hT⟩
variable (hT : tabOk P Θ = true)
include hT
/-- one cell a part -/
def okV : Value → Bool
  | .tuple _ => false
  | .agg cs => cs.toList.all (·.oneCell')
  | _ => true
omit hT in
theorem okV_cells {v : Value} (h : okV v = true) : (∀ vs, v ≠ .tuple vs) ∧ ∀ u ∈ cellsL v, u.oneCell' = true := by
  cases v with
  | tuple vs => simp [okV] at h
  | agg cs => exact ⟨fun vs e => (by cases e), List.all_eq_true.1 h⟩
  | _ => exact ⟨fun vs e => (by cases e), fun u hu => by simp only [cellsL, List.mem_singleton] at hu; subst hu; rfl⟩
omit hT in
theorem nt_cells {t : Nat} {v : Value} (h : ntV t v = true) (h1 : ∀ vs, v ≠ .tuple vs) : (cellsL v).all (nt1 t) = true := by
  cases v with
  | tuple vs => exact absurd rfl (h1 vs)
  | agg cs => exact h
  | _ => simp only [cellsL, List.all_cons, List.all_nil, Bool.and_true]; exact h
omit hT in
theorem Fr.nt_ev {t : Nat} (hL : ntL t L = true) {x : Operand} {v : Value} (hx : evO L x = some v) : ntV t v = true := by
  cases x with
  | tmp s => exact List.all_eq_true.1 hL _ (lookup_mem hx)
  | const u =>
    simp only [evO] at hx
    split at hx <;> try (simp at hx; done)
    rename_i hc
    simp only [Option.some.injEq] at hx
    subst hx
    cases u with
    | pointer a => cases a <;> first | rfl | simp [cOk] at hc
    | slice a n c => cases a <;> first | rfl | simp [cOk] at hc
    | tuple vs =>
      simp only [cOk, beq_iff_eq] at hc
      have : vs = #[] := Array.eq_empty_of_size_eq_zero hc
      subst this; rfl
    | _ => first | rfl | simp [cOk] at hc
  | global g => simp only [evO, Option.some.injEq] at hx; subst hx; rfl
  | func f => simp only [evO, Option.some.injEq] at hx; subst hx; rfl
def rowOf (e : TypeId) (cs : List Value) : Row := { elem := e, cs := cs, room := cs.length, fz := false, flat := cs.all plain1 }
omit hT in
theorem holds_new {w w' : World} {e : TypeId} {cs : List Value} (r : Row) (hr : r.elem = e ∧ r.cs = cs ∧ r.room = cs.length ∧ r.fz = false) (hw : w'.heap = w.heap.push (.cells cs.toArray e)) (h1 : ∀ v ∈ cs, v.oneCell' = true) : Holds w' w.heap.size r := by
  obtain ⟨h2, h3, h4, h5⟩ := hr
  refine ⟨[], (0, 0), ?_, by rw [h3, h4]; simp, .inl rfl, by rw [h3]; simpa using h1⟩
  rw [hw, Array.getElem?_push, if_pos rfl, h2, h3]; simp
/-- a variable, made -/
theorem Go1.alloc {o : Oper} {e : TypeId} {d t : Nat} {i : Ty} (ho : o.op = .alloc e) (hd : o.dst = some d) (hN : d < N) (hi : Θ.lookup e = some i) (h1 : i.zero.all (·.oneCell') = true)
    (hL : ntL t L = true) (hK : ntK t K = true) (hD : D.contains t = false) (h : T F ((d, .pointer (some ⟨t, 0, some 0⟩)) :: L) ((t, { elem := e, cs := i.zero, room := i.zero.length, flat := false }) :: K)) : Go1 P N D F L K o T := by
  refine fun ι a w hF hS => ⟨upd ι t w.heap.size, { w with heap := w.heap.push (.cells i.zero.toArray e) }, .pointer (some ⟨w.heap.size, 0, none⟩), F, _, _, .inl ?_, ?_, ?_, fun u hu => upd_ne ι (fun e => by subst e; simp at hD; exact hD hu), h⟩
  · obtain ⟨z, hz, hzl, _, _⟩ := (tab_ty hT hi).run_zero w
    obtain ⟨dst, op, type, pos, after, guard⟩ := o
    simp only at ho
    subst ho
    have : z.cells = i.zero.toArray := by rw [← hzl]
    simp [execOp, Instr.alloc, hz, newVar, newRow, this]
  · have := (hF.nt (fun u hu => upd_ne ι (t := t) (b := w.heap.size) hu) hL).put hN (.pointer (some ⟨t, 0, some 0⟩))
    rw [hd]
    simpa [upd_eq] using this
  · refine hS.new hK rfl rfl rfl rfl ?_ (fun h => by cases h)
    have hz := (tab_ty hT hi).zero_plain (upd ι t w.heap.size)
    exact holds_new _ ⟨rfl, by simp only [Row.c, hz], rfl, rfl⟩ rfl (List.all_eq_true.1 h1)
omit hT in
/-- a variable, made of a value -/
theorem Go1.box {o : Oper} {e : TypeId} {x : Operand} {d t : Nat} {v : Value} (ho : o.op = .box e x) (hd : o.dst = some d) (hN : d < N) (hx : evO L x = some v) (hv : okV v = true)
    (hL : ntL t L = true) (hK : ntK t K = true) (hD : D.contains t = false) (h : T F ((d, .pointer (some ⟨t, 0, some 0⟩)) :: L) ((t, { elem := e, cs := cellsL v, room := (cellsL v).length, flat := false }) :: K)) : Go1 P N D F L K o T := by
  obtain ⟨hnt, h1⟩ := okV_cells hv
  refine fun ι a w hF hS => ⟨upd ι t w.heap.size, { w with heap := w.heap.push (.cells ((cellsL v).map (c1 ι)).toArray e) }, .pointer (some ⟨w.heap.size, 0, none⟩), F, _, _, .inl ?_, ?_, ?_, fun u hu => upd_ne ι (fun e => by subst e; simp at hD; exact hD hu), h⟩
  · obtain ⟨dst, op, type, pos, after, guard⟩ := o
    simp only at ho
    subst ho
    simp [execOp, Instr.box, newVar, newRow, hF.ev hx, cellsL_c ι hnt]
  · have := (hF.nt (fun u hu => upd_ne ι (t := t) (b := w.heap.size) hu) hL).put hN (.pointer (some ⟨t, 0, some 0⟩))
    rw [hd]
    simpa [upd_eq] using this
  · refine hS.new hK rfl rfl rfl rfl ?_ (fun h => by cases h)
    have hz : (cellsL v).map (c1 (upd ι t w.heap.size)) = (cellsL v).map (c1 ι) := List.map_congr_left fun u hu => c1_nt (fun u hu => upd_ne ι hu) (List.all_eq_true.1 (nt_cells (Fr.nt_ev hL hx) hnt) u hu)
    exact holds_new _ ⟨rfl, by simp only [Row.c, hz], by simp [Row.c], rfl⟩ rfl (fun u hu => by obtain ⟨u', hu', rfl⟩ := List.mem_map.1 hu; rw [c1_oneCell]; exact h1 _ hu')
end
end Go.Proofs.Ytbeblgjibfoanaa.Am
