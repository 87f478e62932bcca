/- Rules for walking Go functions with memory told by tags (A1). -/
import Derived.Below
import Derived.Laws.OwnMore
import Derived.KernelRfl
namespace Go.Proofs.Ytbeblgjibfoanaa.Am
set_option linter.unusedSimpArgs false
set_option linter.unusedVariables false
open Go Go.RowKit
/-! Values that speak of the call's own blocks by tags. -/
/-- an address: with the spot 0 it is a tag's (the call's own block), else one of the world's (whose spots are told one higher) -/
def cA (ι : Nat → Nat) (a : Addr) : Addr := match a.spot with
  | none => a
  | some 0 => ⟨ι a.block, a.off, none⟩
  | some (s + 1) => ⟨a.block, a.off, some s⟩
def c0 (ι : Nat → Nat) : Value → Value
  | .pointer (some a) => .pointer (some (cA ι a))
  | .slice (some a) n c => .slice (some (cA ι a)) n c
  | v => v
def c1 (ι : Nat → Nat) : Value → Value
  | .func fn first cap => .func fn ⟨first.toList.map (c0 ι)⟩ ⟨cap.toList.map (c0 ι)⟩
  | v => c0 ι v
theorem mk_map (f : Value → Value) (a : Array Value) : (⟨a.toList.map f⟩ : Array Value) = a.map f := by apply Array.ext'; simp
theorem c1_func (ι : Nat → Nat) (fn : Fn) (x y : Array Value) : c1 ι (.func fn x y) = .func fn (x.map (c0 ι)) (y.map (c0 ι)) := by simp only [c1, mk_map]
def c2 (ι : Nat → Nat) : Value → Value
  | .agg cs => .agg ⟨cs.toList.map (c1 ι)⟩
  | v => c1 ι v
def cV (ι : Nat → Nat) : Value → Value
  | .tuple vs => .tuple ⟨vs.toList.map (c2 ι)⟩
  | v => c2 ι v
theorem c2_agg (ι : Nat → Nat) (cs : Array Value) : c2 ι (.agg cs) = .agg (cs.map (c1 ι)) := by simp only [c2, mk_map]
section
variable (ι : Nat → Nat)
@[simp] theorem cV_int (k : IntKind) (n : Int) : cV ι (.int k n) = .int k n := rfl
@[simp] theorem cV_bool (b : Bool) : cV ι (.bool b) = .bool b := rfl
@[simp] theorem cV_string (s : ByteArray) : cV ι (.string s) = .string s := rfl
@[simp] theorem cV_nilp : cV ι (.pointer none) = .pointer none := rfl
@[simp] theorem cV_nils (n c : Nat) : cV ι (.slice none n c) = .slice none n c := rfl
@[simp] theorem cV_ptr (a : Addr) : cV ι (.pointer (some a)) = .pointer (some (cA ι a)) := rfl
@[simp] theorem cV_slice (a : Addr) (n c : Nat) : cV ι (.slice (some a) n c) = .slice (some (cA ι a)) n c := rfl
@[simp] theorem cV_agg (cs : Array Value) : cV ι (.agg cs) = .agg (cs.map (c1 ι)) := c2_agg ι cs
@[simp] theorem cV_tuple (cs : Array Value) : cV ι (.tuple cs) = .tuple (cs.map (c2 ι)) := by simp only [cV, mk_map]
@[simp] theorem cV_map (r : Option Nat) : cV ι (.map r) = .map r := rfl
@[simp] theorem cV_func (fn : Fn) (x y : Array Value) : cV ι (.func fn x y) = .func fn (x.map (c0 ι)) (y.map (c0 ι)) := c1_func ι fn x y
@[simp] theorem cA_ext (b o : Nat) : cA ι ⟨b, o, none⟩ = ⟨b, o, none⟩ := rfl
@[simp] theorem cA_own (b o : Nat) : cA ι ⟨b, o, some 0⟩ = ⟨ι b, o, none⟩ := rfl
end
theorem cA_off (ι : Nat → Nat) (a : Addr) : (cA ι a).off = a.off := by unfold cA; split <;> rfl
/-- the walk's own addition: the tag stays -/
def addA (a : Addr) (n : Nat) : Addr := match a.spot with
  | none => { a with off := a.off + n }
  | some 0 => { a with off := a.off + n }
  | some (_ + 1) => if n = 0 then a else ⟨a.block, a.off + n, none⟩
theorem cA_addA (ι : Nat → Nat) (a : Addr) (n : Nat) : cA ι (addA a n) = (cA ι a).add n := by
  obtain ⟨b, o, s⟩ := a
  unfold cA addA Addr.add
  rcases s with _ | _ | s <;> by_cases h : n = 0 <;> simp [h]
/-- a value of one cell -/
theorem c1_oneCell (ι : Nat → Nat) (v : Value) : (c1 ι v).oneCell' = v.oneCell' := by
  cases v with
  | pointer a => cases a <;> rfl
  | slice a n c => cases a <;> rfl
  | _ => rfl
theorem c2_cells (ι : Nat → Nat) (v : Value) : (c2 ι v).cells = v.cells.map (c1 ι) := by
  cases v with
  | agg cs => rw [c2_agg]; rfl
  | pointer a => cases a <;> simp [c2, c1, c0, Value.cells]
  | slice a n c => cases a <;> simp [c2, c1, c0, Value.cells]
  | _ => simp [c2, c1, c0, Value.cells]
theorem cV_cells {ι : Nat → Nat} {v : Value} (h : ∀ vs, v ≠ .tuple vs) : (cV ι v).cells = v.cells.map (c1 ι) := by
  cases v with
  | tuple vs => exact absurd rfl (h vs)
  | agg cs => rw [cV_agg]; rfl
  | pointer a => cases a <;> simp [cV, c2, c1, c0, Value.cells]
  | slice a n c => cases a <;> simp [cV, c2, c1, c0, Value.cells]
  | _ => simp [cV, c2, c1, c0, Value.cells]
theorem cV_one (ι : Nat → Nat) {v : Value} (h : v.oneCell' = true) : cV ι v = c1 ι v := by
  cases v <;> first | rfl | simp [Value.oneCell'] at h
/-- no tag in it -/
def plain0 : Value → Bool
  | .pointer (some a) => match a.spot with
    | some 0 => false
    | _ => true
  | .slice (some a) _ _ => match a.spot with
    | some 0 => false
    | _ => true
  | _ => true
def plain1 : Value → Bool
  | .func _ first cap => first.all plain0 && cap.all plain0
  | .agg _ => false
  | .tuple _ => false
  | v => plain0 v
theorem cA_plain (ι κ : Nat → Nat) {a : Addr} (h : (match a.spot with | some 0 => false | _ => true) = true) : cA ι a = cA κ a := by
  obtain ⟨b, o, s⟩ := a
  rcases s with _ | _ | s
  · rfl
  · cases h
  · rfl
theorem c0_plain (ι κ : Nat → Nat) {v : Value} (h : plain0 v = true) : c0 ι v = c0 κ v := by
  cases v with
  | pointer a => cases a with
    | none => rfl
    | some a => simp only [c0, cA_plain ι κ h]
  | slice a n c => cases a with
    | none => rfl
    | some a => simp only [c0, cA_plain ι κ h]
  | _ => rfl
theorem map_c0_plain (ι κ : Nat → Nat) {vs : Array Value} (h : vs.all plain0 = true) : vs.map (c0 ι) = vs.map (c0 κ) := by
  rw [Array.all_eq_true'] at h
  exact Array.map_congr_left fun v hv => c0_plain ι κ (h v hv)
theorem c1_plain (ι κ : Nat → Nat) {v : Value} (h : plain1 v = true) : c1 ι v = c1 κ v := by
  cases v with
  | func fn x y =>
    simp only [plain1, Bool.and_eq_true] at h
    simp only [c1_func, map_c0_plain ι κ h.1, map_c0_plain ι κ h.2]
  | agg cs => simp [plain1] at h
  | tuple cs => simp [plain1] at h
  | pointer a => exact c0_plain ι κ (by simpa only [plain1] using h)
  | slice a n c => exact c0_plain ι κ (by simpa only [plain1] using h)
  | _ => rfl
/-- tags told as the blocks that they stand for; the world's own addresses stay -/
def rA (ι : Nat → Nat) (a : Addr) : Addr := match a.spot with
  | some 0 => ⟨ι a.block, a.off, none⟩
  | _ => a
def r0 (ι : Nat → Nat) : Value → Value
  | .pointer (some a) => .pointer (some (rA ι a))
  | .slice (some a) n c => .slice (some (rA ι a)) n c
  | v => v
def r1 (ι : Nat → Nat) : Value → Value
  | .func fn first cap => .func fn ⟨first.toList.map (r0 ι)⟩ ⟨cap.toList.map (r0 ι)⟩
  | v => r0 ι v
def r2 (ι : Nat → Nat) : Value → Value
  | .agg cs => .agg ⟨cs.toList.map (r1 ι)⟩
  | v => r1 ι v
def rV (ι : Nat → Nat) : Value → Value
  | .tuple vs => .tuple ⟨vs.toList.map (r2 ι)⟩
  | v => r2 ι v
theorem r1_func (ι : Nat → Nat) (fn : Fn) (x y : Array Value) : r1 ι (.func fn x y) = .func fn (x.map (r0 ι)) (y.map (r0 ι)) := by simp only [r1, mk_map]
theorem r2_agg (ι : Nat → Nat) (cs : Array Value) : r2 ι (.agg cs) = .agg (cs.map (r1 ι)) := by simp only [r2, mk_map]
section
variable (ι : Nat → Nat)
@[simp] theorem rV_int (k : IntKind) (n : Int) : rV ι (.int k n) = .int k n := rfl
@[simp] theorem rV_bool (b : Bool) : rV ι (.bool b) = .bool b := rfl
@[simp] theorem rV_string (s : ByteArray) : rV ι (.string s) = .string s := rfl
@[simp] theorem rV_nilp : rV ι (.pointer none) = .pointer none := rfl
@[simp] theorem rV_nils (n c : Nat) : rV ι (.slice none n c) = .slice none n c := rfl
@[simp] theorem rV_ptr (a : Addr) : rV ι (.pointer (some a)) = .pointer (some (rA ι a)) := rfl
@[simp] theorem rV_slice (a : Addr) (n c : Nat) : rV ι (.slice (some a) n c) = .slice (some (rA ι a)) n c := rfl
@[simp] theorem rV_agg (cs : Array Value) : rV ι (.agg cs) = .agg (cs.map (r1 ι)) := r2_agg ι cs
@[simp] theorem rV_tuple (cs : Array Value) : rV ι (.tuple cs) = .tuple (cs.map (r2 ι)) := by simp only [rV, mk_map]
@[simp] theorem rV_func (fn : Fn) (x y : Array Value) : rV ι (.func fn x y) = .func fn (x.map (r0 ι)) (y.map (r0 ι)) := r1_func ι fn x y
@[simp] theorem rA_ext (b o : Nat) : rA ι ⟨b, o, none⟩ = ⟨b, o, none⟩ := rfl
@[simp] theorem rA_own (b o : Nat) : rA ι ⟨b, o, some 0⟩ = ⟨ι b, o, none⟩ := rfl
end
theorem cA_rA (ι κ : Nat → Nat) (a : Addr) : cA κ (rA ι a) = cA ι a := by
  obtain ⟨b, o, s⟩ := a
  rcases s with _ | _ | s <;> rfl
theorem c0_r0 (ι κ : Nat → Nat) (v : Value) : c0 κ (r0 ι v) = c0 ι v := by
  cases v with
  | pointer a => cases a with
    | none => rfl
    | some a => simp only [c0, r0, cA_rA]
  | slice a n c => cases a with
    | none => rfl
    | some a => simp only [c0, r0, cA_rA]
  | _ => rfl
theorem c1_r1 (ι κ : Nat → Nat) (v : Value) : c1 κ (r1 ι v) = c1 ι v := by
  cases v with
  | func fn x y => simp [c1_func, r1_func, c0_r0, Function.comp_def]
  | pointer a => cases a with
    | none => rfl
    | some a => exact c0_r0 ι κ (.pointer (some a))
  | slice a n c => cases a with
    | none => rfl
    | some a => exact c0_r0 ι κ (.slice (some a) n c)
  | _ => rfl
theorem c2_r2 (ι κ : Nat → Nat) (v : Value) : c2 κ (r2 ι v) = c2 ι v := by
  cases v with
  | agg cs => simp [c2_agg, r2_agg, c1_r1, Function.comp_def]
  | func fn x y => exact c1_r1 ι κ (.func fn x y)
  | pointer a => cases a with
    | none => rfl
    | some a => exact c1_r1 ι κ (.pointer (some a))
  | slice a n c => cases a with
    | none => rfl
    | some a => exact c1_r1 ι κ (.slice (some a) n c)
  | _ => rfl
theorem cV_rV (ι κ : Nat → Nat) (v : Value) : cV κ (rV ι v) = cV ι v := by
  cases v with
  | tuple vs => simp [c2_r2, Function.comp_def]
  | agg cs => exact c2_r2 ι κ (.agg cs)
  | func fn x y => exact c2_r2 ι κ (.func fn x y)
  | pointer a => cases a with
    | none => rfl
    | some a => exact c2_r2 ι κ (.pointer (some a))
  | slice a n c => cases a with
    | none => rfl
    | some a => exact c2_r2 ι κ (.slice (some a) n c)
  | _ => rfl
theorem plain0_r0 (ι : Nat → Nat) (v : Value) : plain0 (r0 ι v) = true := by
  cases v with
  | pointer a => cases a with
    | none => rfl
    | some a => obtain ⟨b, o, s⟩ := a; rcases s with _ | _ | s <;> rfl
  | slice a n c => cases a with
    | none => rfl
    | some a => obtain ⟨b, o, s⟩ := a; rcases s with _ | _ | s <;> rfl
  | _ => rfl
theorem plain1_r1 (ι : Nat → Nat) {v : Value} (h : v.oneCell' = true) : plain1 (r1 ι v) = true := by
  cases v with
  | func fn x y => simp [r1_func, plain1, plain0_r0]
  | agg cs => simp [Value.oneCell'] at h
  | tuple cs => simp [Value.oneCell'] at h
  | pointer a => cases a with
    | none => rfl
    | some a => exact plain0_r0 ι (.pointer (some a))
  | slice a n c => cases a with
    | none => rfl
    | some a => exact plain0_r0 ι (.slice (some a) n c)
  | _ => rfl
theorem r0_plain (ι : Nat → Nat) {v : Value} (h : plain0 v = true) : r0 ι v = v := by
  cases v with
  | pointer a => cases a with
    | none => rfl
    | some a => obtain ⟨b, o, s⟩ := a; rcases s with _ | _ | s <;> first | rfl | cases h
  | slice a n c => cases a with
    | none => rfl
    | some a => obtain ⟨b, o, s⟩ := a; rcases s with _ | _ | s <;> first | rfl | cases h
  | _ => rfl
theorem r1_plain (ι : Nat → Nat) {v : Value} (h : plain1 v = true) : r1 ι v = v := by
  cases v with
  | func fn x y =>
    simp only [plain1, Bool.and_eq_true] at h
    have aux : ∀ vs : Array Value, vs.all plain0 = true → vs.map (r0 ι) = vs := fun vs hv => by
      rw [Array.all_eq_true'] at hv
      conv => rhs; rw [← Array.map_id vs]
      exact Array.map_congr_left fun v hx => r0_plain ι (hv v hx)
    rw [r1_func, aux x h.1, aux y h.2]
  | agg cs => simp [plain1] at h
  | tuple cs => simp [plain1] at h
  | pointer a => cases a with
    | none => rfl
    | some a => exact r0_plain ι (v := .pointer (some a)) h
  | slice a n c => cases a with
    | none => rfl
    | some a => exact r0_plain ι (v := .slice (some a) n c) h
  | _ => rfl
theorem r1_oneCell (ι : Nat → Nat) (v : Value) : (r1 ι v).oneCell' = v.oneCell' := by
  cases v with
  | pointer a => cases a <;> rfl
  | slice a n c => cases a <;> rfl
  | _ => rfl
/-- the world's values, told: spots one higher -/
def eA (a : Addr) : Addr := match a.spot with
  | none => a
  | some s => ⟨a.block, a.off, some (s + 1)⟩
def e0 : Value → Value
  | .pointer (some a) => .pointer (some (eA a))
  | .slice (some a) n c => .slice (some (eA a)) n c
  | v => v
def e1 : Value → Value
  | .func fn first cap => .func fn ⟨first.toList.map e0⟩ ⟨cap.toList.map e0⟩
  | v => e0 v
theorem cA_eA (ι : Nat → Nat) (a : Addr) : cA ι (eA a) = a := by
  obtain ⟨b, o, s⟩ := a
  cases s <;> rfl
theorem c0_e0 (ι : Nat → Nat) (v : Value) : c0 ι (e0 v) = v := by
  cases v with
  | pointer a => cases a with
    | none => rfl
    | some a => simp only [c0, e0, cA_eA]
  | slice a n c => cases a with
    | none => rfl
    | some a => simp only [c0, e0, cA_eA]
  | _ => rfl
theorem c1_e1 (ι : Nat → Nat) (v : Value) : c1 ι (e1 v) = v := by
  cases v with
  | func fn x y =>
    have : ∀ vs : Array Value, (⟨(⟨vs.toList.map e0⟩ : Array Value).toList.map (c0 ι)⟩ : Array Value) = vs := fun vs => by
      apply Array.ext'
      simp only [List.map_map]
      conv => rhs; rw [← List.map_id vs.toList]
      exact List.map_congr_left fun v _ => c0_e0 ι v
    simp only [e1, c1, this]
  | pointer a => cases a with
    | none => rfl
    | some a => exact c0_e0 ι (.pointer (some a))
  | slice a n c => cases a with
    | none => rfl
    | some a => exact c0_e0 ι (.slice (some a) n c)
  | _ => rfl

/-! Rows, memory. -/
structure Row where
  elem : TypeId
  cs : List Value
  room : Nat
  /-- a mark of the text that its bytes came from may lie behind it -/
  fz : Bool := false
  /-- no tag in its cells -/
  flat : Bool := false
def Row.c (ι : Nat → Nat) (r : Row) : Row := { r with cs := r.cs.map (c1 ι) }
def Row.r (ι : Nat → Nat) (r : Row) : Row := { r with cs := r.cs.map (r1 ι) }
theorem Row.c_r (ι κ : Nat → Nat) (r : Row) : (r.r ι).c κ = r.c ι := by simp [Row.c, Row.r, c1_r1, Function.comp_def]
abbrev Own := List (Nat × Row)
/-- what is not the call's own: the world at the beginning, and rows of its callers -/
structure Mem where
  w0 : World
  ch : List (Nat × Row)
def Holds (w : World) (b : Nat) (r : Row) : Prop :=
  ∃ (junk : List Value) (fr : Nat × Nat), w.heap[b]? = some (.cells (r.cs ++ junk).toArray r.elem fr) ∧ r.cs.length + junk.length = r.room ∧ (fr = (0, 0) ∨ (r.fz = true ∧ r.room ≤ fr.1)) ∧ ∀ v ∈ r.cs ++ junk, v.oneCell' = true
structure St (F : Mem) (ι : Nat → Nat) (K : Own) (w : World) : Prop where
  below : Below F.w0.heap.size F.w0 w
  nodup : ((K.map fun x => ι x.1) ++ F.ch.map Prod.fst).Nodup
  own : ∀ x ∈ K, F.w0.heap.size ≤ ι x.1 ∧ Holds w (ι x.1) (x.2.c ι) ∧ (x.2.flat = true → ∀ v ∈ x.2.cs, plain1 v = true)
  ext : ∀ x ∈ F.ch, F.w0.heap.size ≤ x.1 ∧ Holds w x.1 (x.2.c fun _ => 0)

def cellAt (r : Row) (o : Nat) : Option Value := r.cs[o]?
/-- a cell that is not the call's own -/
def look (F : Mem) (a : Addr) : Option Value :=
  ((if a.block < F.w0.heap.size then (F.w0.cell? a).map e1 else (F.ch.lookup a.block).bind (cellAt · a.off))).bind fun v => if plain1 v then some v else none
def rdA (F : Mem) (K : Own) (a : Addr) : Option Value := match a.spot with
  | some 0 => (K.lookup a.block).bind (cellAt · a.off)
  | none => look F a
  | some (_ + 1) => none

theorem Holds.cell {w : World} {b : Nat} {r : Row} (h : Holds w b r) {o : Nat} {v : Value} (hv : r.cs[o]? = some v) : w.cell? ⟨b, o, none⟩ = some v := by
  obtain ⟨junk, fr, hb, _, _⟩ := h
  unfold World.cell?
  simp only [hb]
  have hlt : o < r.cs.length := (List.getElem?_eq_some_iff.1 hv).1
  simp [List.getElem?_append_left hlt, hv]
theorem Holds.frozen {w : World} {b : Nat} {r : Row} (h : Holds w b r) {o : Nat} (ho : o < r.room) : w.frozen? ⟨b, o, none⟩ = false := by
  obtain ⟨junk, ⟨lo, hi⟩, hb, hl, hf, _⟩ := h
  unfold World.frozen?
  simp only [hb]
  simp only [Bool.and_eq_false_iff, decide_eq_false_iff_not]
  rcases hf with hf | ⟨_, hf⟩
  · simp only [Prod.mk.injEq] at hf; omega
  · simp only at hf; omega
theorem Holds.lt {w : World} {b : Nat} {r : Row} (h : Holds w b r) : b < w.heap.size := by
  obtain ⟨junk, fr, hb, _⟩ := h
  exact (Array.getElem?_eq_some_iff.1 hb).1
theorem Holds.congr {w w' : World} {b : Nat} {r : Row} (h : Holds w b r) (e : w'.heap[b]? = w.heap[b]?) : Holds w' b r := by
  unfold Holds at *
  rw [e]; exact h
theorem lookup_mem {α : Type} {t : Nat} {r : α} : ∀ {K : List (Nat × α)}, K.lookup t = some r → (t, r) ∈ K := by
  intro K
  induction K with
  | nil => intro h; simp at h
  | cons x K ih =>
    obtain ⟨u, s⟩ := x
    intro h
    rw [List.lookup_cons] at h
    split at h
    · rename_i e
      have e1 : t = u := by simpa using e
      subst e1
      simp only [Option.some.injEq] at h
      subst h
      exact List.mem_cons_self
    · exact List.mem_cons_of_mem _ (ih h)
theorem mem_lookup {α : Type} {t : Nat} {r : α} : ∀ {K : List (Nat × α)}, (K.map Prod.fst).Nodup → (t, r) ∈ K → K.lookup t = some r := by
  intro K
  induction K with
  | nil => intro _ h; simp at h
  | cons x K ih =>
    obtain ⟨u, s⟩ := x
    intro hn h
    rw [List.lookup_cons]
    simp only [List.map_cons, List.nodup_cons] at hn
    rcases List.mem_cons.1 h with e | h
    · simp only [Prod.mk.injEq] at e
      obtain ⟨rfl, rfl⟩ := e
      simp
    · have hne : t ≠ u := fun e => hn.1 (e ▸ List.mem_map.2 ⟨(t, r), h, rfl⟩)
      have : (t == u) = false := by simpa using hne
      simp only [this]
      exact ih hn.2 h
theorem St.look_cell {F : Mem} {ι : Nat → Nat} {K : Own} {w : World} (h : St F ι K w) {a : Addr} {v : Value} (ha : a.spot = none) (hv : look F a = some v) (κ : Nat → Nat) : w.cell? a = some (c1 κ v) ∧ plain1 v = true := by
  unfold look at hv
  rw [Option.bind_eq_some_iff] at hv
  obtain ⟨u, hu, h2⟩ := hv
  split at h2
  · rename_i hp
    simp only [Option.some.injEq] at h2
    subst h2
    refine ⟨?_, hp⟩
    split at hu
    · rename_i hlt
      rw [Option.map_eq_some_iff] at hu
      obtain ⟨u0, hu0, rfl⟩ := hu
      rw [c1_e1, ← hu0]; exact h.below.cell hlt
    · rw [Option.bind_eq_some_iff] at hu
      obtain ⟨r, hr, hc⟩ := hu
      obtain ⟨_, hh⟩ := h.ext _ (lookup_mem hr)
      obtain ⟨b, o, s⟩ := a
      simp only at ha hr hc hh
      subst ha
      refine hh.cell ?_
      simp only [Row.c, List.getElem?_map]
      simp only [cellAt] at hc
      rw [hc, c1_plain κ (fun _ => 0) hp]; rfl
  · simp at h2
/-- what is read by tag or by address is what the world holds -/
theorem St.rd {F : Mem} {ι : Nat → Nat} {K : Own} {w : World} (h : St F ι K w) {a : Addr} {v : Value} (hv : rdA F K a = some v) : w.cell? (cA ι a) = some (c1 ι v) := by
  obtain ⟨b, o, s⟩ := a
  rcases s with _ | _ | s
  · exact (h.look_cell (a := ⟨b, o, none⟩) rfl hv ι).1
  · simp only [rdA] at hv
    rw [Option.bind_eq_some_iff] at hv
    obtain ⟨r, hr, hc⟩ := hv
    obtain ⟨_, hh, _⟩ := h.own _ (lookup_mem hr)
    refine hh.cell ?_
    simp only [Row.c, List.getElem?_map]
    simp only [cellAt] at hc
    rw [hc]; rfl
  · simp [rdA] at hv
end Go.Proofs.Ytbeblgjibfoanaa.Am
