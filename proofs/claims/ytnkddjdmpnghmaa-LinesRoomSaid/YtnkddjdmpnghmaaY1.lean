/- Rules for walking Go functions, and contracts proved by them (A1, A2, A3, A4, A5, A6, A7, A8, A9, A10, A11, A12, A13, A14, A15, A16, A17, A18, A19, A20, A21, A22, T0). -/
import Derived.Below
import Derived.Laws.OwnMore
import Derived.KernelRfl
import Derived.Laws.Bits
import Derived.Laws.Strings
import Derived.Laws.Entries
import Derived.IntWalk
import Derived.Laws.Cells
import Derived.Laws.Append
import Derived.Laws.BytesString
import Derived.Laws.BytesArg
import Derived.Tactics
import Derived.Orders
import Derived.OrdersHeld
import Derived.Test.YtnkddjdmpnghmaaChecked
import Derived.Scope
import Derived.Laws.BitsLemmas
import Derived.Laws.Small
import Derived.Laws.Concat
import Derived.ChangeKeysEq
import Derived.ChangeArms
import Derived.DataReads
import Derived.WideShapes
import Derived.SizedLaws
import Derived.OpenShut
namespace Go.Proofs.Ytnkddjdmpnghmaa.Am
set_option linter.unusedSimpArgs false
set_option linter.unusedVariables false
open Go Go.RowKit
/-- an address: with the spot 0 it is a tag's (the call's own block), else one of the world's (whose spots are told one higher) -/
def cA (ι : Nat → Nat) (a : Addr) : Addr := match a.spot with
  | none => a
  | some 0 => ⟨ι a.block, a.off, none⟩
  | some (s + 1) => ⟨a.block, a.off, some s⟩
def c0 (ι : Nat → Nat) : Value → Value
  | .pointer (some a) => .pointer (some (cA ι a))
  | .slice (some a) n c => .slice (some (cA ι a)) n c
  | v => v
def c1 (ι : Nat → Nat) : Value → Value
  | .func fn first cap => .func fn ⟨first.toList.map (c0 ι)⟩ ⟨cap.toList.map (c0 ι)⟩
  | v => c0 ι v
theorem mk_map (f : Value → Value) (a : Array Value) : (⟨a.toList.map f⟩ : Array Value) = a.map f := by apply Array.ext'; simp
theorem c1_func (ι : Nat → Nat) (fn : Fn) (x y : Array Value) : c1 ι (.func fn x y) = .func fn (x.map (c0 ι)) (y.map (c0 ι)) := by simp only [c1, mk_map]
def c2 (ι : Nat → Nat) : Value → Value
  | .agg cs => .agg ⟨cs.toList.map (c1 ι)⟩
  | v => c1 ι v
def cV (ι : Nat → Nat) : Value → Value
  | .tuple vs => .tuple ⟨vs.toList.map (c2 ι)⟩
  | v => c2 ι v
theorem c2_agg (ι : Nat → Nat) (cs : Array Value) : c2 ι (.agg cs) = .agg (cs.map (c1 ι)) := by simp only [c2, mk_map]
section
variable (ι : Nat → Nat)
@[simp] theorem cV_int (k : IntKind) (n : Int) : cV ι (.int k n) = .int k n := rfl
@[simp] theorem cV_bool (b : Bool) : cV ι (.bool b) = .bool b := rfl
@[simp] theorem cV_string (s : ByteArray) : cV ι (.string s) = .string s := rfl
@[simp] theorem cV_nilp : cV ι (.pointer none) = .pointer none := rfl
@[simp] theorem cV_nils (n c : Nat) : cV ι (.slice none n c) = .slice none n c := rfl
@[simp] theorem cV_ptr (a : Addr) : cV ι (.pointer (some a)) = .pointer (some (cA ι a)) := rfl
@[simp] theorem cV_slice (a : Addr) (n c : Nat) : cV ι (.slice (some a) n c) = .slice (some (cA ι a)) n c := rfl
@[simp] theorem cV_agg (cs : Array Value) : cV ι (.agg cs) = .agg (cs.map (c1 ι)) := c2_agg ι cs
@[simp] theorem cV_tuple (cs : Array Value) : cV ι (.tuple cs) = .tuple (cs.map (c2 ι)) := by simp only [cV, mk_map]
@[simp] theorem cV_map (r : Option Nat) : cV ι (.map r) = .map r := rfl
@[simp] theorem cV_func (fn : Fn) (x y : Array Value) : cV ι (.func fn x y) = .func fn (x.map (c0 ι)) (y.map (c0 ι)) := c1_func ι fn x y
@[simp] theorem cA_ext (b o : Nat) : cA ι ⟨b, o, none⟩ = ⟨b, o, none⟩ := rfl
@[simp] theorem cA_own (b o : Nat) : cA ι ⟨b, o, some 0⟩ = ⟨ι b, o, none⟩ := rfl
end
/-- the walk's own addition: the tag stays -/
def addA (a : Addr) (n : Nat) : Addr := match a.spot with
  | none => { a with off := a.off + n }
  | some 0 => { a with off := a.off + n }
  | some (_ + 1) => if n = 0 then a else ⟨a.block, a.off + n, none⟩
theorem cA_addA (ι : Nat → Nat) (a : Addr) (n : Nat) : cA ι (addA a n) = (cA ι a).add n := by
  obtain ⟨b, o, s⟩ := a
  unfold cA addA Addr.add
  rcases s with _ | _ | s <;> by_cases h : n = 0 <;> simp [h]
/-- a value of one cell -/
theorem c1_oneCell (ι : Nat → Nat) (v : Value) : (c1 ι v).oneCell' = v.oneCell' := by
  cases v with
  | pointer a => cases a <;> rfl
  | slice a n c => cases a <;> rfl
  | _ => rfl
theorem cV_cells {ι : Nat → Nat} {v : Value} (h : ∀ vs, v ≠ .tuple vs) : (cV ι v).cells = v.cells.map (c1 ι) := by
  cases v with
  | tuple vs => exact absurd rfl (h vs)
  | agg cs => rw [cV_agg]; rfl
  | pointer a => cases a <;> simp [cV, c2, c1, c0, Value.cells]
  | slice a n c => cases a <;> simp [cV, c2, c1, c0, Value.cells]
  | _ => simp [cV, c2, c1, c0, Value.cells]
theorem cV_one (ι : Nat → Nat) {v : Value} (h : v.oneCell' = true) : cV ι v = c1 ι v := by
  cases v <;> first | rfl | simp [Value.oneCell'] at h
/-- no tag in it -/
def plain0 : Value → Bool
  | .pointer (some a) => match a.spot with
    | some 0 => false
    | _ => true
  | .slice (some a) _ _ => match a.spot with
    | some 0 => false
    | _ => true
  | _ => true
def plain1 : Value → Bool
  | .func _ first cap => first.all plain0 && cap.all plain0
  | .agg _ => false
  | .tuple _ => false
  | v => plain0 v
theorem cA_plain (ι κ : Nat → Nat) {a : Addr} (h : (match a.spot with | some 0 => false | _ => true) = true) : cA ι a = cA κ a := by
  obtain ⟨b, o, s⟩ := a
  rcases s with _ | _ | s
  · rfl
  · cases h
  · rfl
theorem c0_plain (ι κ : Nat → Nat) {v : Value} (h : plain0 v = true) : c0 ι v = c0 κ v := by
  cases v with
  | pointer a => cases a with
    | none => rfl
    | some a => simp only [c0, cA_plain ι κ h]
  | slice a n c => cases a with
    | none => rfl
    | some a => simp only [c0, cA_plain ι κ h]
  | _ => rfl
theorem map_c0_plain (ι κ : Nat → Nat) {vs : Array Value} (h : vs.all plain0 = true) : vs.map (c0 ι) = vs.map (c0 κ) := by
  rw [Array.all_eq_true'] at h
  exact Array.map_congr_left fun v hv => c0_plain ι κ (h v hv)
theorem c1_plain (ι κ : Nat → Nat) {v : Value} (h : plain1 v = true) : c1 ι v = c1 κ v := by
  cases v with
  | func fn x y =>
    simp only [plain1, Bool.and_eq_true] at h
    simp only [c1_func, map_c0_plain ι κ h.1, map_c0_plain ι κ h.2]
  | agg cs => simp [plain1] at h
  | tuple cs => simp [plain1] at h
  | pointer a => exact c0_plain ι κ (by simpa only [plain1] using h)
  | slice a n c => exact c0_plain ι κ (by simpa only [plain1] using h)
  | _ => rfl
/-- tags told as the blocks that they stand for; the world's own addresses stay -/
def rA (ι : Nat → Nat) (a : Addr) : Addr := match a.spot with
  | some 0 => ⟨ι a.block, a.off, none⟩
  | _ => a
def r0 (ι : Nat → Nat) : Value → Value
  | .pointer (some a) => .pointer (some (rA ι a))
  | .slice (some a) n c => .slice (some (rA ι a)) n c
  | v => v
def r1 (ι : Nat → Nat) : Value → Value
  | .func fn first cap => .func fn ⟨first.toList.map (r0 ι)⟩ ⟨cap.toList.map (r0 ι)⟩
  | v => r0 ι v
def r2 (ι : Nat → Nat) : Value → Value
  | .agg cs => .agg ⟨cs.toList.map (r1 ι)⟩
  | v => r1 ι v
def rV (ι : Nat → Nat) : Value → Value
  | .tuple vs => .tuple ⟨vs.toList.map (r2 ι)⟩
  | v => r2 ι v
theorem r1_func (ι : Nat → Nat) (fn : Fn) (x y : Array Value) : r1 ι (.func fn x y) = .func fn (x.map (r0 ι)) (y.map (r0 ι)) := by simp only [r1, mk_map]
theorem r2_agg (ι : Nat → Nat) (cs : Array Value) : r2 ι (.agg cs) = .agg (cs.map (r1 ι)) := by simp only [r2, mk_map]
section
variable (ι : Nat → Nat)
@[simp] theorem rV_int (k : IntKind) (n : Int) : rV ι (.int k n) = .int k n := rfl
@[simp] theorem rV_bool (b : Bool) : rV ι (.bool b) = .bool b := rfl
@[simp] theorem rV_string (s : ByteArray) : rV ι (.string s) = .string s := rfl
@[simp] theorem rV_nilp : rV ι (.pointer none) = .pointer none := rfl
@[simp] theorem rV_nils (n c : Nat) : rV ι (.slice none n c) = .slice none n c := rfl
@[simp] theorem rV_ptr (a : Addr) : rV ι (.pointer (some a)) = .pointer (some (rA ι a)) := rfl
@[simp] theorem rV_slice (a : Addr) (n c : Nat) : rV ι (.slice (some a) n c) = .slice (some (rA ι a)) n c := rfl
@[simp] theorem rV_agg (cs : Array Value) : rV ι (.agg cs) = .agg (cs.map (r1 ι)) := r2_agg ι cs
@[simp] theorem rV_tuple (cs : Array Value) : rV ι (.tuple cs) = .tuple (cs.map (r2 ι)) := by simp only [rV, mk_map]
@[simp] theorem rV_func (fn : Fn) (x y : Array Value) : rV ι (.func fn x y) = .func fn (x.map (r0 ι)) (y.map (r0 ι)) := r1_func ι fn x y
@[simp] theorem rA_ext (b o : Nat) : rA ι ⟨b, o, none⟩ = ⟨b, o, none⟩ := rfl
@[simp] theorem rA_own (b o : Nat) : rA ι ⟨b, o, some 0⟩ = ⟨ι b, o, none⟩ := rfl
end
theorem cA_rA (ι κ : Nat → Nat) (a : Addr) : cA κ (rA ι a) = cA ι a := by
  obtain ⟨b, o, s⟩ := a
  rcases s with _ | _ | s <;> rfl
theorem c0_r0 (ι κ : Nat → Nat) (v : Value) : c0 κ (r0 ι v) = c0 ι v := by
  cases v with
  | pointer a => cases a with
    | none => rfl
    | some a => simp only [c0, r0, cA_rA]
  | slice a n c => cases a with
    | none => rfl
    | some a => simp only [c0, r0, cA_rA]
  | _ => rfl
theorem c1_r1 (ι κ : Nat → Nat) (v : Value) : c1 κ (r1 ι v) = c1 ι v := by
  cases v with
  | func fn x y => simp [c1_func, r1_func, c0_r0, Function.comp_def]
  | pointer a => cases a with
    | none => rfl
    | some a => exact c0_r0 ι κ (.pointer (some a))
  | slice a n c => cases a with
    | none => rfl
    | some a => exact c0_r0 ι κ (.slice (some a) n c)
  | _ => rfl
theorem c2_r2 (ι κ : Nat → Nat) (v : Value) : c2 κ (r2 ι v) = c2 ι v := by
  cases v with
  | agg cs => simp [c2_agg, r2_agg, c1_r1, Function.comp_def]
  | func fn x y => exact c1_r1 ι κ (.func fn x y)
  | pointer a => cases a with
    | none => rfl
    | some a => exact c1_r1 ι κ (.pointer (some a))
  | slice a n c => cases a with
    | none => rfl
    | some a => exact c1_r1 ι κ (.slice (some a) n c)
  | _ => rfl
theorem cV_rV (ι κ : Nat → Nat) (v : Value) : cV κ (rV ι v) = cV ι v := by
  cases v with
  | tuple vs => simp [c2_r2, Function.comp_def]
  | agg cs => exact c2_r2 ι κ (.agg cs)
  | func fn x y => exact c2_r2 ι κ (.func fn x y)
  | pointer a => cases a with
    | none => rfl
    | some a => exact c2_r2 ι κ (.pointer (some a))
  | slice a n c => cases a with
    | none => rfl
    | some a => exact c2_r2 ι κ (.slice (some a) n c)
  | _ => rfl
theorem plain0_r0 (ι : Nat → Nat) (v : Value) : plain0 (r0 ι v) = true := by
  cases v with
  | pointer a => cases a with
    | none => rfl
    | some a => obtain ⟨b, o, s⟩ := a; rcases s with _ | _ | s <;> rfl
  | slice a n c => cases a with
    | none => rfl
    | some a => obtain ⟨b, o, s⟩ := a; rcases s with _ | _ | s <;> rfl
  | _ => rfl
theorem plain1_r1 (ι : Nat → Nat) {v : Value} (h : v.oneCell' = true) : plain1 (r1 ι v) = true := by
  cases v with
  | func fn x y => simp [r1_func, plain1, plain0_r0]
  | agg cs => simp [Value.oneCell'] at h
  | tuple cs => simp [Value.oneCell'] at h
  | pointer a => cases a with
    | none => rfl
    | some a => exact plain0_r0 ι (.pointer (some a))
  | slice a n c => cases a with
    | none => rfl
    | some a => exact plain0_r0 ι (.slice (some a) n c)
  | _ => rfl
theorem r0_plain (ι : Nat → Nat) {v : Value} (h : plain0 v = true) : r0 ι v = v := by
  cases v with
  | pointer a => cases a with
    | none => rfl
    | some a => obtain ⟨b, o, s⟩ := a; rcases s with _ | _ | s <;> first | rfl | cases h
  | slice a n c => cases a with
    | none => rfl
    | some a => obtain ⟨b, o, s⟩ := a; rcases s with _ | _ | s <;> first | rfl | cases h
  | _ => rfl
theorem r1_plain (ι : Nat → Nat) {v : Value} (h : plain1 v = true) : r1 ι v = v := by
  cases v with
  | func fn x y =>
    simp only [plain1, Bool.and_eq_true] at h
    have aux : ∀ vs : Array Value, vs.all plain0 = true → vs.map (r0 ι) = vs := fun vs hv => by
      rw [Array.all_eq_true'] at hv
      conv => rhs; rw [← Array.map_id vs]
      exact Array.map_congr_left fun v hx => r0_plain ι (hv v hx)
    rw [r1_func, aux x h.1, aux y h.2]
  | agg cs => simp [plain1] at h
  | tuple cs => simp [plain1] at h
  | pointer a => cases a with
    | none => rfl
    | some a => exact r0_plain ι (v := .pointer (some a)) h
  | slice a n c => cases a with
    | none => rfl
    | some a => exact r0_plain ι (v := .slice (some a) n c) h
  | _ => rfl
/-- the world's values, told: spots one higher -/
def eA (a : Addr) : Addr := match a.spot with
  | none => a
  | some s => ⟨a.block, a.off, some (s + 1)⟩
def e0 : Value → Value
  | .pointer (some a) => .pointer (some (eA a))
  | .slice (some a) n c => .slice (some (eA a)) n c
  | v => v
def e1 : Value → Value
  | .func fn first cap => .func fn ⟨first.toList.map e0⟩ ⟨cap.toList.map e0⟩
  | v => e0 v
theorem cA_eA (ι : Nat → Nat) (a : Addr) : cA ι (eA a) = a := by
  obtain ⟨b, o, s⟩ := a
  cases s <;> rfl
theorem c0_e0 (ι : Nat → Nat) (v : Value) : c0 ι (e0 v) = v := by
  cases v with
  | pointer a => cases a with
    | none => rfl
    | some a => simp only [c0, e0, cA_eA]
  | slice a n c => cases a with
    | none => rfl
    | some a => simp only [c0, e0, cA_eA]
  | _ => rfl
theorem c1_e1 (ι : Nat → Nat) (v : Value) : c1 ι (e1 v) = v := by
  cases v with
  | func fn x y =>
    have : ∀ vs : Array Value, (⟨(⟨vs.toList.map e0⟩ : Array Value).toList.map (c0 ι)⟩ : Array Value) = vs := fun vs => by
      apply Array.ext'
      simp only [List.map_map]
      conv => rhs; rw [← List.map_id vs.toList]
      exact List.map_congr_left fun v _ => c0_e0 ι v
    simp only [e1, c1, this]
  | pointer a => cases a with
    | none => rfl
    | some a => exact c0_e0 ι (.pointer (some a))
  | slice a n c => cases a with
    | none => rfl
    | some a => exact c0_e0 ι (.slice (some a) n c)
  | _ => rfl
structure Row where
  elem : TypeId
  cs : List Value
  room : Nat
  /-- a mark of the text that its bytes came from may lie behind it -/
  fz : Bool := false
  /-- no tag in its cells -/
  flat : Bool := false
def Row.c (ι : Nat → Nat) (r : Row) : Row := { r with cs := r.cs.map (c1 ι) }
def Row.r (ι : Nat → Nat) (r : Row) : Row := { r with cs := r.cs.map (r1 ι) }
theorem Row.c_r (ι κ : Nat → Nat) (r : Row) : (r.r ι).c κ = r.c ι := by simp [Row.c, Row.r, c1_r1, Function.comp_def]
abbrev Own := List (Nat × Row)
/-- what is not the call's own: the world at the beginning, and rows of its callers -/
structure Mem where
  w0 : World
  ch : List (Nat × Row)
def Holds (w : World) (b : Nat) (r : Row) : Prop :=
  ∃ (junk : List Value) (fr : Nat × Nat), w.heap[b]? = some (.cells (r.cs ++ junk).toArray r.elem fr) ∧ r.cs.length + junk.length = r.room ∧ (fr = (0, 0) ∨ (r.fz = true ∧ r.room ≤ fr.1)) ∧ ∀ v ∈ r.cs ++ junk, v.oneCell' = true
structure St (F : Mem) (ι : Nat → Nat) (K : Own) (w : World) : Prop where
  below : Below F.w0.heap.size F.w0 w
  nodup : ((K.map fun x => ι x.1) ++ F.ch.map Prod.fst).Nodup
  own : ∀ x ∈ K, F.w0.heap.size ≤ ι x.1 ∧ Holds w (ι x.1) (x.2.c ι) ∧ (x.2.flat = true → ∀ v ∈ x.2.cs, plain1 v = true)
  ext : ∀ x ∈ F.ch, F.w0.heap.size ≤ x.1 ∧ Holds w x.1 (x.2.c fun _ => 0)
def cellAt (r : Row) (o : Nat) : Option Value := r.cs[o]?
/-- a cell that is not the call's own -/
def look (F : Mem) (a : Addr) : Option Value :=
  ((if a.block < F.w0.heap.size then (F.w0.cell? a).map e1 else (F.ch.lookup a.block).bind (cellAt · a.off))).bind fun v => if plain1 v then some v else none
def rdA (F : Mem) (K : Own) (a : Addr) : Option Value := match a.spot with
  | some 0 => (K.lookup a.block).bind (cellAt · a.off)
  | none => look F a
  | some (_ + 1) => none
theorem Holds.cell {w : World} {b : Nat} {r : Row} (h : Holds w b r) {o : Nat} {v : Value} (hv : r.cs[o]? = some v) : w.cell? ⟨b, o, none⟩ = some v := by
  obtain ⟨junk, fr, hb, _, _⟩ := h
  unfold World.cell?
  simp only [hb]
  have hlt : o < r.cs.length := (List.getElem?_eq_some_iff.1 hv).1
  simp [List.getElem?_append_left hlt, hv]
theorem Holds.frozen {w : World} {b : Nat} {r : Row} (h : Holds w b r) {o : Nat} (ho : o < r.room) : w.frozen? ⟨b, o, none⟩ = false := by
  obtain ⟨junk, ⟨lo, hi⟩, hb, hl, hf, _⟩ := h
  unfold World.frozen?
  simp only [hb]
  simp only [Bool.and_eq_false_iff, decide_eq_false_iff_not]
  rcases hf with hf | ⟨_, hf⟩
  · simp only [Prod.mk.injEq] at hf; omega
  · simp only at hf; omega
theorem Holds.lt {w : World} {b : Nat} {r : Row} (h : Holds w b r) : b < w.heap.size := by
  obtain ⟨junk, fr, hb, _⟩ := h
  exact (Array.getElem?_eq_some_iff.1 hb).1
theorem Holds.congr {w w' : World} {b : Nat} {r : Row} (h : Holds w b r) (e : w'.heap[b]? = w.heap[b]?) : Holds w' b r := by
  unfold Holds at *
  rw [e]; exact h
theorem lookup_mem {α : Type} {t : Nat} {r : α} : ∀ {K : List (Nat × α)}, K.lookup t = some r → (t, r) ∈ K := by
  intro K
  induction K with
  | nil => intro h; simp at h
  | cons x K ih =>
    obtain ⟨u, s⟩ := x
    intro h
    rw [List.lookup_cons] at h
    split at h
    · rename_i e
      have e1 : t = u := by simpa using e
      subst e1
      simp only [Option.some.injEq] at h
      subst h
      exact List.mem_cons_self
    · exact List.mem_cons_of_mem _ (ih h)
theorem mem_lookup {α : Type} {t : Nat} {r : α} : ∀ {K : List (Nat × α)}, (K.map Prod.fst).Nodup → (t, r) ∈ K → K.lookup t = some r := by
  intro K
  induction K with
  | nil => intro _ h; simp at h
  | cons x K ih =>
    obtain ⟨u, s⟩ := x
    intro hn h
    rw [List.lookup_cons]
    simp only [List.map_cons, List.nodup_cons] at hn
    rcases List.mem_cons.1 h with e | h
    · simp only [Prod.mk.injEq] at e
      obtain ⟨rfl, rfl⟩ := e
      simp
    · have hne : t ≠ u := fun e => hn.1 (e ▸ List.mem_map.2 ⟨(t, r), h, rfl⟩)
      have : (t == u) = false := by simpa using hne
      simp only [this]
      exact ih hn.2 h
theorem St.look_cell {F : Mem} {ι : Nat → Nat} {K : Own} {w : World} (h : St F ι K w) {a : Addr} {v : Value} (ha : a.spot = none) (hv : look F a = some v) (κ : Nat → Nat) : w.cell? a = some (c1 κ v) ∧ plain1 v = true := by
  unfold look at hv
  rw [Option.bind_eq_some_iff] at hv
  obtain ⟨u, hu, h2⟩ := hv
  split at h2
  · rename_i hp
    simp only [Option.some.injEq] at h2
    subst h2
    refine ⟨?_, hp⟩
    split at hu
    · rename_i hlt
      rw [Option.map_eq_some_iff] at hu
      obtain ⟨u0, hu0, rfl⟩ := hu
      rw [c1_e1, ← hu0]; exact h.below.cell hlt
    · rw [Option.bind_eq_some_iff] at hu
      obtain ⟨r, hr, hc⟩ := hu
      obtain ⟨_, hh⟩ := h.ext _ (lookup_mem hr)
      obtain ⟨b, o, s⟩ := a
      simp only at ha hr hc hh
      subst ha
      refine hh.cell ?_
      simp only [Row.c, List.getElem?_map]
      simp only [cellAt] at hc
      rw [hc, c1_plain κ (fun _ => 0) hp]; rfl
  · simp at h2
/-- what is read by tag or by address is what the world holds -/
theorem St.rd {F : Mem} {ι : Nat → Nat} {K : Own} {w : World} (h : St F ι K w) {a : Addr} {v : Value} (hv : rdA F K a = some v) : w.cell? (cA ι a) = some (c1 ι v) := by
  obtain ⟨b, o, s⟩ := a
  rcases s with _ | _ | s
  · exact (h.look_cell (a := ⟨b, o, none⟩) rfl hv ι).1
  · simp only [rdA] at hv
    rw [Option.bind_eq_some_iff] at hv
    obtain ⟨r, hr, hc⟩ := hv
    obtain ⟨_, hh, _⟩ := h.own _ (lookup_mem hr)
    refine hh.cell ?_
    simp only [Row.c, List.getElem?_map]
    simp only [cellAt] at hc
    rw [hc]; rfl
  · simp [rdA] at hv
end Go.Proofs.Ytnkddjdmpnghmaa.Am
namespace Go.Proofs.Ytnkddjdmpnghmaa.Am
set_option linter.unusedSimpArgs false
set_option linter.unusedVariables false
open Go Go.RowKit
inductive TyK where
  | int (k : IntKind) | bool | string | slice (e : TypeId) | ptr (e : TypeId) | struct (fs : List (Nat × TypeId)) | array (n : Nat) (e : TypeId) | map (k e : TypeId) | func | iface | tuple | other
structure Ty where
  k : TyK
  size : Nat
  bytes : Nat
  zero : List Value
abbrev Tab := List (TypeId × Ty)
def kindB : TypeDesc → TyK → Bool
  | .int j, .int k => j == k
  | .bool, .bool | .string, .string | .func _ _ _, .func | .interface _, .iface | .tuple _, .tuple => true
  | .slice e, .slice f => e == f
  | .pointer e, .ptr f => e == f
  | .struct fs, .struct gs => fs.toList.map (fun f => (f.offset, f.type)) == gs
  | .array n e, .array m f => n == m && e == f
  | .map a b, .map c d => a == c && b == d
  | .struct _, .other | .array _ _, .other => false
  | _, .other => true
  | _, _ => false
/-- the cells of simple zero values -/
def veq : Value → Value → Bool
  | .int j a, .int k b => j == k && a == b
  | .bool a, .bool b => a == b
  | .string a, .string b => a.data.toList == b.data.toList
  | .pointer none, .pointer none | .map none, .map none | .nilFunc, .nilFunc | .nilIface, .nilIface => true
  | .slice none n c, .slice none m d => n == m && c == d
  | _, _ => false
theorem veq_eq {u v : Value} (h : veq u v = true) : u = v := by
  cases u <;> cases v <;> first
    | (simp [veq] at h; done)
    | (simp only [veq, Bool.and_eq_true, beq_iff_eq] at h; simp only [h, and_self]; done)
    | (rename_i a b; cases a <;> cases b <;> first | rfl | (simp [veq] at h; done))
    | rfl
    | (rename_i a n c b m d; cases a <;> cases b <;> simp [veq] at h <;> simp [h])
    | (rename_i a b; simp only [veq, beq_iff_eq] at h; obtain ⟨⟨x⟩⟩ := a; obtain ⟨⟨y⟩⟩ := b; simp_all)
    | skip
def veqs : List Value → List Value → Bool
  | [], [] => true
  | u :: us, v :: vs => veq u v && veqs us vs
  | _, _ => false
theorem veqs_eq : ∀ {us vs : List Value}, veqs us vs = true → us = vs
  | [], [], _ => rfl
  | u :: us, v :: vs, h => by
    simp only [veqs, Bool.and_eq_true] at h
    rw [veq_eq h.1, veqs_eq h.2]
  | [], _ :: _, h => by simp [veqs] at h
  | _ :: _, [], h => by simp [veqs] at h
def aggB : TyK → Bool
  | .struct _ | .array _ _ => true
  | _ => false
def zeroB (o : Option Value) (i : Ty) : Bool := match o with
  | some (.agg cs) => aggB i.k && veqs cs.toList i.zero
  | some v => !aggB i.k && veqs [v] i.zero && v.oneCell'
  | none => false
def tyOk1 (P : Program) (t : TypeId) (i : Ty) : Bool :=
  match P.info? t with
  | some inf => match P.underlying t with
    | some d => inf.size == i.size && inf.bytes == i.bytes && zeroB inf.zero i && kindB d i.k
    | none => false
  | none => false
def tabOk (P : Program) (Θ : Tab) : Bool := Θ.all fun x => tyOk1 P x.1 x.2
structure TyOk (P : Program) (t : TypeId) (i : Ty) : Prop where
  info : ∃ inf, P.info? t = some inf ∧ inf.size = i.size ∧ inf.bytes = i.bytes ∧ zeroB inf.zero i = true
  und : ∃ d, P.underlying t = some d ∧ kindB d i.k = true
theorem tyOk_of {P : Program} {t : TypeId} {i : Ty} (h : tyOk1 P t i = true) : TyOk P t i := by
  unfold tyOk1 at h
  cases h1 : P.info? t with
  | none => simp [h1] at h
  | some inf =>
    cases h2 : P.underlying t with
    | none => simp [h1, h2] at h
    | some d =>
      simp only [h1, h2, Bool.and_eq_true, beq_iff_eq] at h
      exact ⟨⟨inf, h1, h.1.1.1, h.1.1.2, h.1.2⟩, d, h2, h.2⟩
theorem tab_ty {P : Program} {Θ : Tab} (h : tabOk P Θ = true) {t : TypeId} {i : Ty} (hi : Θ.lookup t = some i) : TyOk P t i := by
  have := List.all_eq_true.1 h _ (lookup_mem hi)
  exact tyOk_of this
section
variable {P : Program} {t : TypeId} {i : Ty} (h : TyOk P t i) (w : World)
include h
theorem TyOk.run_size : (sizeOf t).run P w = .ok i.size w := by
  obtain ⟨inf, h1, h2, _, _⟩ := h.info
  simp [sizeOf, typeInfo, h1, h2]
theorem TyOk.run_info : ∃ inf, (typeInfo t).run P w = .ok inf w ∧ inf.size = i.size ∧ inf.bytes = i.bytes := by
  obtain ⟨inf, h1, h2, h3, _⟩ := h.info
  exact ⟨inf, by simp [typeInfo, h1], h2, h3⟩
theorem TyOk.run_agg : (isAgg t).run P w = .ok (aggB i.k) w := by
  obtain ⟨d, h1, h2⟩ := h.und
  simp only [isAgg, Sem.run_bind, underlying, run_program, Result.andThen_ok, h1, Sem.run_pure]
  cases hk : i.k <;> rw [hk] at h2 <;> cases d <;> first | rfl | (simp [kindB] at h2; done) | skip
theorem TyOk.run_zero : ∃ z, (zeroValue t).run P w = .ok z w ∧ z.cells.toList = i.zero ∧ (aggB i.k = false → z.oneCell' = true) ∧ (aggB i.k = true → z = .agg i.zero.toArray) := by
  obtain ⟨inf, h1, h2, h3, h4⟩ := h.info
  unfold zeroB at h4
  cases hz : inf.zero with
  | none => simp [hz] at h4
  | some z =>
    refine ⟨z, by simp [zeroValue, typeInfo, h1, hz], ?_⟩
    rw [hz] at h4
    cases z with
    | agg cs =>
      simp only [Bool.and_eq_true] at h4
      have e := veqs_eq h4.2
      refine ⟨e, fun h5 => ?_, fun _ => ?_⟩
      · rw [h4.1] at h5; cases h5
      · rw [← e]
    | _ =>
      simp only [Bool.and_eq_true, Bool.not_eq_true'] at h4
      have e := veqs_eq h4.1.2
      refine ⟨by rw [← e]; rfl, fun _ => h4.2, fun h5 => ?_⟩
      rw [h4.1.1] at h5; cases h5
end
abbrev Slots := List (Nat × Value)
structure Fr (N : Nat) (ι : Nat → Nat) (L : Slots) (a : Act) : Prop where
  size : a.tmps.size = N
  defers : a.defers = []
  slot : ∀ s v, L.lookup s = some v → a.tmps[s]? = some (cV ι v)
def cOk : Value → Bool
  | .int _ _ | .bool _ | .string _ | .float _ _ | .nilFunc | .nilIface | .map _ => true
  | .pointer none | .slice none _ _ => true
  | .tuple vs => vs.size == 0
  | _ => false
def evO (L : Slots) : Operand → Option Value
  | .tmp t => L.lookup t
  | .const v => if cOk v then some v else none
  | .global g => some (.pointer (some ⟨g, 0, none⟩))
  | .func f => some (.func (.func f) #[] #[])
theorem cOk_cV (ι : Nat → Nat) {v : Value} (h : cOk v = true) : cV ι v = v := by
  cases v with
  | pointer a => cases a <;> first | rfl | simp [cOk] at h
  | slice a n c => cases a <;> first | rfl | simp [cOk] at h
  | tuple vs =>
    simp only [cOk, beq_iff_eq] at h
    have : vs = #[] := Array.eq_empty_of_size_eq_zero h
    subst this; simp [cV]
  | _ => first | rfl | simp [cOk] at h
theorem Fr.ev {N : Nat} {ι : Nat → Nat} {L : Slots} {a : Act} (h : Fr N ι L a) {x : Operand} {v : Value} (hv : evO L x = some v) : a.eval x = cV ι v := by
  cases x with
  | tmp t =>
    have := h.slot t v hv
    simp only [Act.eval, Array.getD_eq_getD_getElem?, this, Option.getD_some]
  | const u =>
    simp only [evO] at hv
    split at hv
    · simp only [Option.some.injEq] at hv; subst hv; rw [cOk_cV ι (by assumption)]; rfl
    · simp at hv
  | global g => simp only [evO, Option.some.injEq] at hv; subst hv; rfl
  | func f => simp only [evO, Option.some.injEq] at hv; subst hv; simp [cV, c2, c1, Act.eval]
theorem Fr.put {N : Nat} {ι : Nat → Nat} {L : Slots} {a : Act} (h : Fr N ι L a) {d : Nat} (hd : d < N) (v : Value) : Fr N ι ((d, v) :: L) (a.put (some d) (cV ι v)) := by
  refine ⟨by simp [Act.put, h.size], h.defers, fun s u hu => ?_⟩
  simp only [Act.put]
  rw [List.lookup_cons] at hu
  split at hu
  · rename_i e
    have e1 : s = d := by simpa using e
    subst e1
    simp only [Option.some.injEq] at hu
    subst hu
    rw [Array.getElem?_setIfInBounds]
    simp [h.size, hd]
  · rename_i e
    have e1 : s ≠ d := by simpa using e
    rw [Array.getElem?_setIfInBounds_ne (Ne.symm e1)]
    exact h.slot s u hu
theorem Fr.putNone {N : Nat} {ι : Nat → Nat} {L : Slots} {a : Act} (h : Fr N ι L a) (v : Value) : Fr N ι L (a.put none v) := h
def dBin (op : BinOp) (x y : Value) : Option Value :=
  match op, x, y with
  | .add, .int k a, .int j b => if k = j then some (.int k (k.wrap (a + b))) else none
  | .sub, .int k a, .int j b => if k = j then some (.int k (k.wrap (a - b))) else none
  | .mul, .int k a, .int j b => if k = j then some (.int k (k.wrap (a * b))) else none
  | .eql, .int k a, .int j b => if k = j then some (.bool (decide (a = b))) else none
  | .neq, .int k a, .int j b => if k = j then some (.bool (!decide (a = b))) else none
  | .lss, .int k a, .int j b => if k = j then some (.bool (decide (a < b))) else none
  | .leq, .int k a, .int j b => if k = j then some (.bool (decide (a ≤ b))) else none
  | .gtr, .int k a, .int j b => if k = j then some (.bool (decide (b < a))) else none
  | .geq, .int k a, .int j b => if k = j then some (.bool (decide (b ≤ a))) else none
  | .eql, .string a, .string b => some (.bool (a.data.toList == b.data.toList))
  | .neq, .string a, .string b => some (.bool (!(a.data.toList == b.data.toList)))
  | .and, .int k a, .int j b => if k = j then some (.int k (k.wrap (BitVec.ofInt k.bits a &&& BitVec.ofInt k.bits b).toNat)) else none
  | .or, .int k a, .int j b => if k = j then some (.int k (k.wrap (BitVec.ofInt k.bits a ||| BitVec.ofInt k.bits b).toNat)) else none
  | _, _, _ => none
end Go.Proofs.Ytnkddjdmpnghmaa.Am
namespace Go.Proofs.Ytnkddjdmpnghmaa.Am
set_option linter.unusedSimpArgs false
set_option linter.unusedVariables false
open Go Go.RowKit
theorem dBin_run {P : Program} {ι : Nat → Nat} {op : BinOp} {x y v : Value} (h : dBin op x y = some v) (t : TypeId) (w : World) : (binOp op t (cV ι x) (cV ι y)).run P w = .ok (cV ι v) w := by
  unfold dBin at h
  split at h <;> first
    | (simp at h; done)
    | (split at h
       · rename_i e
         subst e
         simp only [Option.some.injEq] at h
         subst h
         simp [binOp, Op.intArith, Op.intCmp, Op.intBits, bne]
         try rfl
       · simp at h)
    | (simp only [Option.some.injEq] at h
       subst h
       simp [binOp, Op.stringOp, ByteArray.toList_eq, bne])
theorem dBin_guard {P : Program} {ι : Nat → Nat} {op : BinOp} {x y v : Value} (h : dBin op x y = some v) (t : TypeId) (a b : Operand) (w : World) : (eqGuard op t a b (cV ι x) (cV ι y)).run P w = .ok () w := by
  unfold dBin at h
  split at h <;> first
    | (simp at h; done)
    | (simp [eqGuard]; done)
    | skip
def fldOf (Θ : Tab) (s : TypeId) (f : Nat) : Option (Nat × Ty) :=
  match Θ.lookup s with
  | some i => match i.k with
    | .struct fs => match fs[f]? with
      | some (o, t) => match Θ.lookup t with
        | some j => some (o, j)
        | none => none
      | none => none
    | _ => none
  | none => none
theorem fldOf_run {P : Program} {Θ : Tab} (hT : tabOk P Θ = true) {s : TypeId} {f o : Nat} {j : Ty} (h : fldOf Θ s f = some (o, j)) :
    ∃ fields g, P.underlying s = some (.struct fields) ∧ fields[f]? = some g ∧ g.offset = o ∧ TyOk P g.type j := by
  unfold fldOf at h
  split at h <;> try (simp at h; done)
  rename_i i hi
  split at h <;> try (simp at h; done)
  rename_i fs hk
  split at h <;> try (simp at h; done)
  rename_i o' t hf
  split at h <;> try (simp at h; done)
  rename_i j' hj
  simp only [Option.some.injEq, Prod.mk.injEq] at h
  obtain ⟨rfl, rfl⟩ := h
  obtain ⟨d, hd, hkd⟩ := (tab_ty hT hi).und
  rw [hk] at hkd
  cases d <;> try (simp [kindB] at hkd; done)
  rename_i fields
  simp only [kindB, beq_iff_eq] at hkd
  subst hkd
  rw [List.getElem?_map] at hf
  cases hg : fields.toList[f]? with
  | none => simp [hg] at hf
  | some g =>
    simp only [hg, Option.map_some, Option.some.injEq, Prod.mk.injEq] at hf
    refine ⟨fields, g, hd, by simpa using hg, hf.1, ?_⟩
    rw [hf.2]; exact tab_ty hT hj
def dConv (i j : TyK) (v : Value) : Option Value :=
  match i, j, v with
  | .int _, .int k, .int _ n => some (.int k (k.wrap n))
  | .string, .string, .string s => some (.string s)
  | _, _, _ => none
def s0 : Value → Bool
  | .func _ _ _ | .agg _ | .tuple _ => false
  | _ => true
theorem s0_cV (ι : Nat → Nat) {v : Value} (h : s0 v = true) : cV ι v = c0 ι v := by
  cases v <;> first | rfl | simp [s0] at h
def putL (cells : List Value) (o : Nat) : List Value → List Value
  | [] => cells
  | v :: vs => putL (cells.set o v) (o + 1) vs
/-- the parts of a struct, put in: place and size of each -/
def fillL (place : Nat → Option (Nat × Nat)) (cells : List Value) : List (Nat × List Value) → Option (List Value)
  | [] => some cells
  | (i, vs) :: rest => match place i with
    | some (o, n) => if vs.length = n ∧ o + n ≤ cells.length then fillL place (putL cells o vs) rest else none
    | none => none
def cellsL : Value → List Value
  | .agg cs => cs.toList
  | v => [v]
def partsL (e : Operand → Option Value) : List (Nat × Operand) → Option (List (Nat × List Value))
  | [] => some []
  | (i, x) :: ps => match e x with
    | some (.tuple _) => none
    | some v => match partsL e ps with
      | some l => some ((i, cellsL v) :: l)
      | none => none
    | none => none
def mapE (e : Operand → Option Value) : List Operand → Option (List Value)
  | [] => some []
  | x :: xs => match e x with
    | some v => match mapE e xs with
      | some l => some (v :: l)
      | none => none
    | none => none
def placeS (Θ : Tab) (t : TypeId) (i : Nat) : Option (Nat × Nat) :=
  match fldOf Θ t i with
  | some (o, j) => some (o, j.size)
  | none => none
def dLen (i : Ty) (v : Value) : Option Value := match i.k, v with
  | .string, .string s => some (.int .i64 s.size)
  | .slice _, .slice _ n _ => some (.int .i64 n)
  | .array n _, _ => some (.int .i64 n)
  | _, _ => none
def dOp (Θ : Tab) (e : Operand → Option Value) : Op → Option Value
  | .move x => e x
  | .assign x => e x
  | .pick c a b => match e c with
    | some (.bool true) => e a
    | some (.bool false) => e b
    | _ => none
  | .nilCheck x => match e x with
    | some (.pointer (some a)) => some (.pointer (some a))
    | _ => none
  | .binOp op _ x y _ => match e x, e y with
    | some u, some v => dBin op u v
    | _, _ => none
  | .unOp .not _ x => match e x with
    | some (.bool b) => some (.bool (!b))
    | _ => none
  | .unOp .neg _ x => match e x with
    | some (.int k n) => some (.int k (k.wrap (0 - n)))
    | _ => none
  | .convert s d x => match Θ.lookup s, Θ.lookup d, e x with
    | some i, some j, some v => dConv i.k j.k v
    | _, _, _ => none
  | .fieldAddr s x f => match fldOf Θ s f, e x with
    | some (o, j), some (.pointer (some a)) => if j.size = 0 then none else some (.pointer (some (addA a o)))
    | _, _ => none
  | .field s x f => match fldOf Θ s f, e x with
    | some (o, j), some (.agg cs) => if aggB j.k then some (.agg ⟨(cs.toList.drop o).take j.size⟩) else match cs.toList[o]? with
      | some v => if v.oneCell' then some v else none
      | none => none
    | _, _ => none
  | .extract x n => match e x with
    | some (.tuple vs) => match vs.toList[n]? with
      | some (.tuple _) => none
      | r => r
    | _ => none
  | .makeFunc fn first cap => match mapE e first.toList, mapE e cap.toList with
    | some f, some c => if f.all s0 && c.all s0 then some (.func fn ⟨f⟩ ⟨c⟩) else none
    | _, _ => none
  | .build t parts => match Θ.lookup t with
    | some i => match i.k with
      | .struct fs => match partsL e parts.toList with
        | some ps => match fillL (placeS Θ t) i.zero ps with
          | some cs => if fs.all (fun f => (Θ.lookup f.2).isSome) then some (.agg ⟨cs⟩) else none
          | none => none
        | none => none
      | .array _ el => match Θ.lookup el, partsL e parts.toList with
        | some j, some ps => match fillL (fun k => some (k * j.size, j.size)) i.zero ps with
          | some cs => some (.agg ⟨cs⟩)
          | none => none
        | _, _ => none
      | _ => none
    | none => none
  | .call ⟨.builtin .len, args, ts⟩ => match ts.toList, mapE e args.toList with
    | [t], some [v] => match Θ.lookup t with
      | some i => dLen i v
      | none => none
    | _, _ => none
  | .call ⟨.builtin .min, args, _⟩ => match mapE e args.toList with
    | some [.int k x, .int _ y] => some (.int k (min x y))
    | _ => none
  | .call ⟨.builtin .max, args, _⟩ => match mapE e args.toList with
    | some [.int k x, .int _ y] => some (.int k (max x y))
    | _ => none
  | _ => none
end Go.Proofs.Ytnkddjdmpnghmaa.Am
namespace Go.Proofs.Ytnkddjdmpnghmaa.Am
set_option linter.unusedSimpArgs false
set_option linter.unusedVariables false
open Go Go.RowKit
section
variable {P : Program} {Θ : Tab} {ι : Nat → Nat} {ρ : Operand → Value} {e : Operand → Option Value}
theorem mapE_run (he : ∀ x u, e x = some u → ρ x = cV ι u) : ∀ {xs : List Operand} {vs : List Value}, mapE e xs = some vs → xs.map ρ = vs.map (cV ι)
  | [], vs, h => by simp only [mapE, Option.some.injEq] at h; subst h; rfl
  | x :: xs, vs, h => by
    simp only [mapE] at h
    split at h <;> try (simp at h; done)
    rename_i v hv
    split at h <;> try (simp at h; done)
    rename_i l hl
    simp only [Option.some.injEq] at h
    subst h
    simp [he _ _ hv, mapE_run he hl]
theorem dField_addr (hT : tabOk P Θ = true) {s : TypeId} {f o : Nat} {j : Ty} (h : fldOf Θ s f = some (o, j)) (hj : j.size ≠ 0) (a : Addr) (w : World) :
    (Instr.fieldAt s (.pointer (some (cA ι a))) f).run P w = .ok (.pointer (some (cA ι (addA a o)))) w := by
  obtain ⟨fields, g, h1, h2, h3, h4⟩ := fldOf_run hT h
  simp [Instr.fieldAt, run_underlying h1, h2, Instr.sureAddr, fieldPlace, h4.run_size, hj, cA_addA, h3]
theorem dField (hT : tabOk P Θ = true) {s : TypeId} {f o : Nat} {j : Ty} {cs : Array Value} {v : Value} (h : fldOf Θ s f = some (o, j))
    (hv : (if aggB j.k then some (.agg ⟨(cs.toList.drop o).take j.size⟩) else match cs.toList[o]? with | some v => if v.oneCell' then some v else none | none => none) = some v) (w : World) :
    (Instr.field s (cV ι (.agg cs)) f).run P w = .ok (cV ι v) w := by
  obtain ⟨fields, g, h1, h2, h3, h4⟩ := fldOf_run hT h
  simp only [Instr.field, Sem.run_bind, run_underlying h1, Result.andThen_ok, h2, cV_agg, asAgg, Sem.run_pure, part, h4.run_agg, h3]
  split at hv
  · rename_i hk
    simp only [Option.some.injEq] at hv
    subst hv
    simp only [hk, if_true, Sem.run_bind, h4.run_size, Result.andThen_ok, Sem.run_pure, cV_agg, Result.ok.injEq, Value.agg.injEq, and_true]
    apply Array.ext'
    simp [List.map_drop, List.map_take]
  · rename_i hk
    split at hv <;> try (simp at hv; done)
    rename_i u hu
    split at hv <;> try (simp at hv; done)
    rename_i h1u
    simp only [Option.some.injEq] at hv
    subst hv
    have hk' : aggB j.k = false := by simpa using hk
    simp only [hk', Bool.false_eq_true, if_false]
    have : (cs.map (c1 ι))[o]? = some (c1 ι u) := by
      rw [Array.getElem?_map]; rw [show cs[o]? = some u from by simpa using hu]; rfl
    rw [this]
    simp [cV_one ι h1u]
theorem putL_length : ∀ (vs cells : List Value) (o : Nat), (putL cells o vs).length = cells.length
  | [], _, _ => rfl
  | v :: vs, cells, o => by simp [putL, putL_length vs]
theorem putL_map (g : Value → Value) : ∀ (vs cells : List Value) (o : Nat), (putL cells o vs).map g = putL (cells.map g) o (vs.map g)
  | [], _, _ => rfl
  | v :: vs, cells, o => by simp [putL, putL_map g vs, List.map_set]
theorem fold_putL : ∀ (vs : List Value) (k o : Nat) (cells : Array Value), (vs.zipIdx k).foldl (fun cs (c, j) => cs.setIfInBounds (o + j) c) cells = (putL cells.toList (o + k) vs).toArray
  | [], k, o, cells => by simp [putL]
  | v :: vs, k, o, cells => by
    simp only [List.zipIdx_cons, List.foldl_cons, putL]
    rw [fold_putL vs (k + 1) o]
    simp [Nat.add_assoc]
theorem cellsL_c (ι : Nat → Nat) {v : Value} (h : ∀ vs, v ≠ .tuple vs) : (cV ι v).cells = ((cellsL v).map (c1 ι)).toArray := by
  rw [cV_cells h]
  cases v <;> first | (simp [cellsL, Value.cells]; done) | (apply Array.ext'; simp [cellsL, Value.cells])
theorem fill_run {place place' : Nat → Option (Nat × Nat)} (hpl : ∀ i p, place i = some p → place' i = some p) : ∀ {ps : List (Nat × List Value)} {qs : List (Nat × Value)} {cells cs : List Value},
    qs.length = ps.length → (∀ (i : Nat) (p : Nat × List Value) (q : Nat × Value), ps[i]? = some p → qs[i]? = some q → q.1 = p.1 ∧ q.2.cells = (p.2.map (c1 ι)).toArray) → fillL place cells ps = some cs →
    Instr.fill place' (cells.map (c1 ι)).toArray qs = some (cs.map (c1 ι)).toArray
  | [], [], cells, cs, _, _, h => by simp only [fillL, Option.some.injEq] at h; subst h; rfl
  | p :: ps, q :: qs, cells, cs, hl, hq, h => by
    obtain ⟨i, vs⟩ := p
    obtain ⟨i', u⟩ := q
    obtain ⟨e1, e2⟩ := hq 0 _ _ rfl rfl
    simp only at e1 e2
    subst e1
    simp only [fillL] at h
    split at h <;> try (simp at h; done)
    rename_i o n hp
    split at h <;> try (simp at h; done)
    rename_i hc
    simp only [Instr.fill, hpl _ _ hp]
    rw [e2]
    rw [if_neg (by simp; omega)]
    have := fill_run hpl (ps := ps) (qs := qs) (by simpa using hl) (fun i p q h1 h2 => hq (i + 1) p q (by simpa using h1) (by simpa using h2)) h
    rw [← this]
    congr 1
    rw [← Array.foldl_toList]
    have hz : (Array.zipIdx (vs.map (c1 ι)).toArray).toList = (vs.map (c1 ι)).zipIdx 0 := by simp
    rw [hz, fold_putL]
    simp [putL_map]
  | [], _ :: _, _, _, hl, _, _ => by simp at hl
  | _ :: _, [], _, _, hl, _, _ => by simp at hl
theorem partsL_run (he : ∀ x u, e x = some u → ρ x = cV ι u) : ∀ {xs : List (Nat × Operand)} {ps : List (Nat × List Value)}, partsL e xs = some ps →
    xs.length = ps.length ∧ ∀ (i : Nat) (p : Nat × List Value) (q : Nat × Value), ps[i]? = some p → (xs.map fun (i, x) => (i, ρ x))[i]? = some q → q.1 = p.1 ∧ q.2.cells = (p.2.map (c1 ι)).toArray
  | [], ps, h => by simp only [partsL, Option.some.injEq] at h; subst h; exact ⟨rfl, fun i p q h => by simp at h⟩
  | (k, x) :: xs, ps, h => by
    simp only [partsL] at h
    split at h <;> try (simp at h; done)
    rename_i v hv hnt
    split at h <;> try (simp at h; done)
    rename_i l hl
    simp only [Option.some.injEq] at h
    subst h
    obtain ⟨h1, h2⟩ := partsL_run he hl
    refine ⟨by simp [h1], fun i p q hp hq => ?_⟩
    cases i with
    | zero =>
      simp only [List.getElem?_cons_zero, Option.some.injEq, List.map_cons] at hp hq
      subst hp; subst hq
      refine ⟨rfl, ?_⟩
      simp only [he _ _ hnt]
      exact cellsL_c ι (fun vs e => by subst e; exact hv vs rfl)
    | succ i =>
      exact h2 i p q (by simpa using hp) (by simpa using hq)
end
end Go.Proofs.Ytnkddjdmpnghmaa.Am
namespace Go.Proofs.Ytnkddjdmpnghmaa.Am
set_option linter.unusedSimpArgs false
set_option linter.unusedVariables false
open Go Go.RowKit
section
variable {P : Program} {Θ : Tab} {ι : Nat → Nat} {ρ : Operand → Value} {e : Operand → Option Value}
theorem veqs_plain (ι : Nat → Nat) : ∀ (us vs : List Value), veqs us vs = true → vs.map (c1 ι) = vs
  | [], [], _ => rfl
  | [], _ :: _, h => by simp [veqs] at h
  | _ :: _, [], h => by simp [veqs] at h
  | u :: us, v :: vs, h => by
    simp only [veqs, Bool.and_eq_true] at h
    simp only [List.map_cons, veqs_plain ι us vs h.2, List.cons.injEq, and_true]
    obtain ⟨h1, _⟩ := h
    cases u <;> cases v <;> first
      | rfl
      | (simp [veq] at h1; done)
      | (rename_i a b; cases a <;> cases b <;> first | rfl | (simp [veq] at h1; done))
      | (rename_i a n c b m d; cases a <;> cases b <;> first | rfl | (simp [veq] at h1; done))
theorem TyOk.zero_plain {t : TypeId} {i : Ty} (ty : TyOk P t i) (ι : Nat → Nat) : i.zero.map (c1 ι) = i.zero := by
  obtain ⟨inf, _, _, _, h4⟩ := ty.info
  unfold zeroB at h4
  cases hzz : inf.zero with
  | none => simp [hzz] at h4
  | some z' =>
    rw [hzz] at h4
    cases z' <;> simp only [Bool.and_eq_true] at h4 <;> first | exact veqs_plain ι _ _ h4.2 | exact veqs_plain ι _ _ h4.1.2
theorem run_mapM_list {α β : Type} (f : α → Sem β) (g : α → β) (w : World) : ∀ (l : List α), (∀ x ∈ l, (f x).run P w = .ok (g x) w) → (l.mapM f).run P w = .ok (l.map g) w
  | [], _ => by simp
  | x :: l, h => by
    simp [h x List.mem_cons_self, run_mapM_list f g w l (fun y hy => h y (List.mem_cons_of_mem _ hy))]
theorem places_run (hT : tabOk P Θ = true) {fields : Array Field} (hall : ∀ f ∈ fields.toList, (Θ.lookup f.type).isSome = true) (w : World) :
    (fields.mapM fun f => (do pure (f.offset, ← sizeOf f.type) : Sem (Nat × Nat))).run P w = .ok (fields.toList.map fun f => (f.offset, ((Θ.lookup f.type).map (·.size)).getD 0)).toArray w := by
  rw [Array.mapM_eq_mapM_toList]
  simp only [Sem.run_map]
  rw [run_mapM_list _ (fun f => (f.offset, ((Θ.lookup f.type).map (·.size)).getD 0))]
  · rfl
  · intro f hf
    have := hall f hf
    cases hi : Θ.lookup f.type with
    | none => simp [hi] at this
    | some i => simp [(tab_ty hT hi).run_size]
theorem dBuild (hT : tabOk P Θ = true) (he : ∀ x u, e x = some u → ρ x = cV ι u) {t : TypeId} {parts : Array (Nat × Operand)} {v : Value}
    (h : dOp Θ e (.build t parts) = some v) (w : World) : (Instr.build t (parts.map fun (i, x) => (i, ρ x))).run P w = .ok (cV ι v) w := by
  simp only [dOp] at h
  split at h <;> try (simp at h; done)
  rename_i i hi
  have ty := tab_ty hT hi
  obtain ⟨z, hz, hzl, _, _⟩ := ty.run_zero w
  have zplain := ty.zero_plain ι
  have hzc : z.cells = (i.zero.map (c1 ι)).toArray := by rw [zplain, ← hzl]
  split at h <;> try (simp at h; done)
  · rename_i fs hk
    split at h <;> try (simp at h; done)
    rename_i ps hps
    split at h <;> try (simp at h; done)
    rename_i cs hcs
    split at h <;> try (simp at h; done)
    rename_i hall
    simp only [Option.some.injEq] at h
    subst h
    obtain ⟨d, hd, hkd⟩ := ty.und
    rw [hk] at hkd
    cases d <;> try (simp [kindB] at hkd; done)
    rename_i fields
    simp only [kindB, beq_iff_eq] at hkd
    subst hkd
    obtain ⟨hl, hq⟩ := partsL_run he hps
    have hall' : ∀ f ∈ fields.toList, (Θ.lookup f.type).isSome = true := fun f hf => List.all_eq_true.1 hall (f.offset, f.type) (List.mem_map.2 ⟨f, hf, rfl⟩)
    have hfill := fill_run (ι := ι) (place' := ((fields.toList.map fun f => (f.offset, ((Θ.lookup f.type).map (·.size)).getD 0)).toArray[·]?)) (fun k p hp => by
      unfold placeS at hp
      split at hp <;> try (simp at hp; done)
      rename_i o j ho
      simp only [Option.some.injEq] at hp
      subst hp
      unfold fldOf at ho
      simp only [hi, hk] at ho
      split at ho <;> try (simp at ho; done)
      rename_i o' t' hf
      split at ho <;> try (simp at ho; done)
      rename_i j' hj
      simp only [Option.some.injEq, Prod.mk.injEq] at ho
      obtain ⟨rfl, rfl⟩ := ho
      rw [List.getElem?_map] at hf
      simp only [List.getElem?_toArray, List.getElem?_map]
      cases hg : fields.toList[k]? with
      | none => simp [hg] at hf
      | some g =>
        simp only [hg, Option.map_some, Option.some.injEq, Prod.mk.injEq] at hf
        simp [hf.1, hf.2, hj]) (by simpa using hl) hq hcs
    simp only [Instr.build, Sem.run_bind, hz, Result.andThen_ok, run_underlying hd, places_run hT hall', hzc]
    have e1 : (parts.map fun (i, x) => (i, ρ x)).toList = parts.toList.map fun (i, x) => (i, ρ x) := by simp
    rw [e1, hfill]
    simp
  · rename_i n el hk
    split at h <;> try (simp at h; done)
    rename_i j ps hj hps
    split at h <;> try (simp at h; done)
    rename_i cs hcs
    simp only [Option.some.injEq] at h
    subst h
    obtain ⟨d, hd, hkd⟩ := ty.und
    rw [hk] at hkd
    cases d <;> try (simp [kindB] at hkd; done)
    rename_i n' el'
    simp only [kindB, Bool.and_eq_true, beq_iff_eq] at hkd
    obtain ⟨rfl, rfl⟩ := hkd
    obtain ⟨hl, hq⟩ := partsL_run he hps
    have hfill := fill_run (ι := ι) (fun k p hp => hp) (by simpa using hl) hq hcs
    simp only [Instr.build, Sem.run_bind, hz, Result.andThen_ok, run_underlying hd, (tab_ty hT hj).run_size, hzc]
    have e1 : (parts.map fun (i, x) => (i, ρ x)).toList = parts.toList.map fun (i, x) => (i, ρ x) := by simp
    rw [e1, hfill]
    simp
end
end Go.Proofs.Ytnkddjdmpnghmaa.Am
namespace Go.Proofs.Ytnkddjdmpnghmaa.Am
set_option linter.unusedSimpArgs false
set_option linter.unusedVariables false
open Go Go.RowKit
/-- In every world: the operation leaves v, and does nothing else. -/
def Yl (P : Program) (ρ : Operand → Value) (o : Op) (v : Value) : Prop := ∀ (o' : Oper), o'.op = o → ∀ w, (execOp ρ o').run P w = .ok (.value v) w
section
variable {P : Program} {Θ : Tab} {ι : Nat → Nat} {ρ : Operand → Value} {e : Operand → Option Value}
theorem map_arr {e : Operand → Option Value} (he : ∀ x u, e x = some u → ρ x = cV ι u) {xs : Array Operand} {vs : List Value} (h : mapE e xs.toList = some vs) : xs.map ρ = (vs.map (cV ι)).toArray := by
  apply Array.ext'
  simp [mapE_run he h]
theorem Yl.bin {o : BinOp} {t t' : TypeId} {x y : Operand} {u v r : Value} (hx : ρ x = cV ι u) (hy : ρ y = cV ι v) (h : dBin o u v = some r) : Yl P ρ (.binOp o t x y t') (cV ι r) := by
  rintro ⟨dst, op, type, pos, after, guard⟩ rfl w
  simp only [execOp, hx, hy, Sem.run_bind, dBin_guard h, Result.andThen_ok, dBin_run h, Sem.run_pure]
theorem dOp_run (hT : tabOk P Θ = true) (he : ∀ x u, e x = some u → ρ x = cV ι u) {o : Op} {v : Value} (h : dOp Θ e o = some v) : Yl P ρ o (cV ι v) := by
  rintro ⟨dst, op, type, pos, after, guard⟩ rfl w
  simp only at h
  cases op <;> try (simp [dOp] at h; done)
  case move x => simp [execOp, he x v h]
  case assign x => simp [execOp, he x v h]
  case pick c a b =>
    simp only [dOp] at h
    split at h <;> try (simp at h; done)
    · rename_i hc
      simp [execOp, he _ _ hc, asBool, he _ _ h]
    · rename_i hc
      simp [execOp, he _ _ hc, asBool, he _ _ h]
  case nilCheck x =>
    simp only [dOp] at h
    split at h <;> try (simp at h; done)
    rename_i a ha
    simp only [Option.some.injEq] at h
    subst h
    simp [execOp, he _ _ ha]
  case binOp op t x y t' =>
    simp only [dOp] at h
    split at h <;> try (simp at h; done)
    rename_i u r hu hr
    exact Yl.bin (he _ _ hu) (he _ _ hr) h _ rfl w
  case unOp op t x =>
    cases op <;> simp only [dOp] at h <;> (try (simp at h; done)) <;> (split at h <;> try (simp at h; done)) <;> rename_i hx <;> simp only [Option.some.injEq] at h <;> subst h <;> simp [execOp, he _ _ hx, Op.unary, Op.intArith]
  case convert s d x =>
    simp only [dOp] at h
    split at h <;> try (simp at h; done)
    rename_i i j u hi hj hu
    obtain ⟨ds, hs, ks⟩ := (tab_ty hT hi).und
    obtain ⟨dd, hd, kd⟩ := (tab_ty hT hj).und
    unfold dConv at h
    split at h <;> try (simp at h; done)
    · rename_i hki hkj
      simp only [Option.some.injEq] at h
      subst h
      rw [hki] at ks
      rw [hkj] at kd
      cases dd <;> try (simp [kindB] at kd; done)
      simp only [kindB, beq_iff_eq] at kd
      subst kd
      simp [execOp, he _ _ hu, convert, run_underlying hs, run_underlying hd, Conv.intToInt]
    · rename_i hki hkj
      simp only [Option.some.injEq] at h
      subst h
      rw [hki] at ks
      rw [hkj] at kd
      cases dd <;> try (simp [kindB] at kd; done)
      simp [execOp, he _ _ hu, convert, run_underlying hs, run_underlying hd]
  case fieldAddr s x f =>
    simp only [dOp] at h
    split at h <;> try (simp at h; done)
    rename_i o j a hf hx
    split at h <;> try (simp at h; done)
    rename_i hj
    simp only [Option.some.injEq] at h
    subst h
    simp only [execOp, he _ _ hx, cV_ptr, Sem.run_bind, dField_addr hT hf hj, Result.andThen_ok, Sem.run_pure]
  case field s x f =>
    simp only [dOp] at h
    split at h <;> try (simp at h; done)
    rename_i o j cs hf hx
    simp only [execOp, he _ _ hx, Sem.run_bind, dField hT hf h, Result.andThen_ok, Sem.run_pure]
  case build t parts =>
    have := dBuild hT he h w
    simp only [execOp, Sem.run_bind, this, Result.andThen_ok, Sem.run_pure]
  case extract x n =>
    simp only [dOp] at h
    split at h <;> try (simp at h; done)
    rename_i vs hx
    split at h <;> try (simp at h; done)
    rename_i hnt
    simp only [execOp, he _ _ hx, cV_tuple, Instr.extract]
    have e1 : (vs.map (c2 ι))[n]? = some (cV ι v) := by
      rw [Array.getElem?_map, show vs[n]? = some v from by simpa using h]
      cases v <;> first | rfl | exact absurd h (hnt _)
    simp only [e1, Sem.run_bind, Sem.run_pure, Result.andThen_ok]
  case makeFunc fn first cap =>
    simp only [dOp] at h
    split at h <;> try (simp at h; done)
    rename_i f c hf hc
    split at h <;> try (simp at h; done)
    rename_i hs
    simp only [Option.some.injEq] at h
    subst h
    simp only [Bool.and_eq_true] at hs
    have e0 : ∀ l : List Value, l.all s0 = true → l.map (cV ι) = l.map (c0 ι) := fun l hl => List.map_congr_left fun v hv => s0_cV ι (List.all_eq_true.1 hl v hv)
    simp only [execOp, Instr.makeFunc, map_arr he hf, map_arr he hc, e0 _ hs.1, e0 _ hs.2, Sem.run_bind, Sem.run_pure, Result.andThen_ok, cV_func]
    simp
  case call c =>
    obtain ⟨callee, args, ts⟩ := c
    cases callee <;> try (simp [dOp] at h; done)
    rename_i b
    cases b <;> try (simp [dOp] at h; done)
    case len =>
      simp only [dOp] at h
      split at h <;> try (simp at h; done)
      rename_i t u ht hu
      split at h <;> try (simp at h; done)
      rename_i i hi
      obtain ⟨d, hd, hk⟩ := (tab_ty hT hi).und
      have hts : ts = #[t] := by apply Array.ext'; simpa using ht
      subst hts
      have ha := map_arr he hu
      simp only [execOp, resolve, Sem.run_bind, Sem.run_pure, Result.andThen_ok, invoke, builtin, ha, Builtin.len_]
      simp only [List.map_cons, List.map_nil]
      simp [run_underlying hd]
      unfold dLen at h
      split at h <;> try (simp at h; done)
      all_goals
        rename_i hki
        simp only [Option.some.injEq] at h
        subst h
        rw [hki] at hk
        cases d <;> try (simp [kindB] at hk; done)
      · simp [goInt]
      · rename_i a _ _ _; cases a <;> simp [goInt]
      · simp only [kindB, Bool.and_eq_true, beq_iff_eq] at hk; simp [goInt, hk.1]
    case min =>
      simp only [dOp] at h
      split at h <;> try (simp at h; done)
      rename_i hu
      simp only [Option.some.injEq] at h
      subst h
      have ha := map_arr he hu
      have hm : ∀ x y : Int, (if y < x then y else x) = min x y := fun x y => by omega
      simp [execOp, resolve, invoke, builtin, ha, Builtin.min_, Builtin.min2, hm]
    case max =>
      simp only [dOp] at h
      split at h <;> try (simp at h; done)
      rename_i hu
      simp only [Option.some.injEq] at h
      subst h
      have ha := map_arr he hu
      have hm : ∀ x y : Int, (if x < y then y else x) = max x y := fun x y => by omega
      simp [execOp, resolve, invoke, builtin, ha, Builtin.max_, Builtin.max2, hm]
end
end Go.Proofs.Ytnkddjdmpnghmaa.Am
namespace Go.Proofs.Ytnkddjdmpnghmaa.Am
set_option linter.unusedSimpArgs false
set_option linter.unusedVariables false
open Go Go.RowKit
/-- The operation leaves v in every world that is told so, whatever blocks the tags stand for. -/
def SD (P : Program) (F : Mem) (K : Own) (L : Slots) (o : Op) (v : Value) : Prop :=
  ∀ (ι : Nat → Nat) (ρ : Operand → Value), (∀ x u, evO L x = some u → ρ x = cV ι u) → ∀ (o' : Oper), o'.op = o → ∀ w, St F ι K w → (execOp ρ o').run P w = .ok (.value (cV ι v)) w
theorem wrap_i64 {x : Int} (h0 : -9223372036854775808 ≤ x) (h1 : x < 9223372036854775808) : IntKind.i64.wrap x = x := by
  exact Go.IntWalk.i64_in _ ⟨by omega, by omega⟩
section
variable {P : Program} {Θ : Tab} {F : Mem} {K : Own} {L : Slots} (hT : tabOk P Θ = true)
include hT
theorem SD.of {o : Op} {v : Value} (h : dOp Θ (evO L) o = some v) : SD P F K L o v := fun ι ρ he o' ho w _ => dOp_run hT he h o' ho w
omit hT in
theorem SD.cast {o : Op} {v v' : Value} (h : SD P F K L o v) (e : v = v') : SD P F K L o v' := e ▸ h
omit hT in
theorem SD.addI {t t' : TypeId} {x y : Operand} {a b : Int} (hx : evO L x = some (.int .i64 a)) (hy : evO L y = some (.int .i64 b)) (h0 : -9223372036854775808 ≤ a + b) (h1 : a + b < 9223372036854775808) : SD P F K L (.binOp .add t x y t') (.int .i64 (a + b)) := by
  intro ι ρ he o' ho w _
  have := Yl.bin (P := P) (t := t) (t' := t') (he _ _ hx) (he _ _ hy) (r := .int .i64 (IntKind.i64.wrap (a + b))) (o := .add) (by simp [dBin]) o' ho w
  rw [wrap_i64 h0 h1] at this
  exact this
omit hT in
theorem SD.subI {t t' : TypeId} {x y : Operand} {a b : Int} (hx : evO L x = some (.int .i64 a)) (hy : evO L y = some (.int .i64 b)) (h0 : -9223372036854775808 ≤ a - b) (h1 : a - b < 9223372036854775808) : SD P F K L (.binOp .sub t x y t') (.int .i64 (a - b)) := by
  intro ι ρ he o' ho w _
  have := Yl.bin (P := P) (t := t) (t' := t') (he _ _ hx) (he _ _ hy) (r := .int .i64 (IntKind.i64.wrap (a - b))) (o := .sub) (by simp [dBin]) o' ho w
  rw [wrap_i64 h0 h1] at this
  exact this
omit hT in
theorem SD.mulI {t t' : TypeId} {x y : Operand} {a b : Int} (hx : evO L x = some (.int .i64 a)) (hy : evO L y = some (.int .i64 b)) (h0 : -9223372036854775808 ≤ a * b) (h1 : a * b < 9223372036854775808) : SD P F K L (.binOp .mul t x y t') (.int .i64 (a * b)) := by
  intro ι ρ he o' ho w _
  have := Yl.bin (P := P) (t := t) (t' := t') (he _ _ hx) (he _ _ hy) (r := .int .i64 (IntKind.i64.wrap (a * b))) (o := .mul) (by simp [dBin]) o' ho w
  rw [wrap_i64 h0 h1] at this
  exact this
omit hT in
theorem SD.negI {t : TypeId} {x : Operand} {a : Int} (hx : evO L x = some (.int .i64 a)) (h0 : -9223372036854775808 ≤ -a) (h1 : -a < 9223372036854775808) : SD P F K L (.unOp .neg t x) (.int .i64 (-a)) := by
  intro ι ρ he o' ho w _
  obtain ⟨dst, op, type, pos, after, guard⟩ := o'
  simp only at ho
  subst ho
  simp [execOp, he _ _ hx, Op.unary, Op.intArith, wrap_i64 h0 h1]
omit hT in
theorem SD.quoI {t t' : TypeId} {x y : Operand} {a b : Int} (hx : evO L x = some (.int .i64 a)) (hy : evO L y = some (.int .i64 b)) (ha : 0 ≤ a) (ha2 : a < 9223372036854775808) (hb : 0 < b) : SD P F K L (.binOp .quo t x y t') (.int .i64 (a / b)) := by
  intro ι ρ he o' ho w _
  obtain ⟨dst, op, type, pos, after, guard⟩ := o'
  simp only at ho
  subst ho
  have e1 : IntKind.i64.wrap (a.tdiv b) = a / b := by
    rw [Int.tdiv_eq_ediv_of_nonneg ha]
    have h1 := Int.ediv_nonneg ha (Int.le_of_lt hb)
    have h2 := Int.ediv_le_self b ha
    exact wrap_i64 (by omega) (by omega)
  have hb0 : b ≠ 0 := by omega
  simp [execOp, he _ _ hx, he _ _ hy, binOp, eqGuard, Op.intDiv, hb0, e1]
omit hT in
theorem SD.remI {t t' : TypeId} {x y : Operand} {a b : Int} (hx : evO L x = some (.int .i64 a)) (hy : evO L y = some (.int .i64 b)) (ha : 0 ≤ a) (hb : 0 < b) : SD P F K L (.binOp .rem t x y t') (.int .i64 (a % b)) := by
  intro ι ρ he o' ho w _
  obtain ⟨dst, op, type, pos, after, guard⟩ := o'
  simp only at ho
  subst ho
  have hb0 : b ≠ 0 := by omega
  simp [execOp, he _ _ hx, he _ _ hy, binOp, eqGuard, Op.intDiv, hb0, Int.tmod_eq_emod_of_nonneg ha]
omit hT in
theorem SD.shlK {t t' : TypeId} {x y : Operand} {k j : IntKind} {a b : Int} (hx : evO L x = some (.int k a)) (hy : evO L y = some (.int j b)) (hb : 0 ≤ b) : SD P F K L (.binOp .shl t x y t') (.int k (k.wrap (a * 2 ^ (min b.toNat k.bits)))) := by
  intro ι ρ he o' ho w _
  obtain ⟨dst, op, type, pos, after, guard⟩ := o'
  simp only at ho
  subst ho
  have : ¬ b < 0 := by omega
  simp [execOp, he _ _ hx, he _ _ hy, binOp, eqGuard, Op.shift, this]
omit hT in
theorem SD.shrK {t t' : TypeId} {x y : Operand} {k j : IntKind} {a b : Int} (hx : evO L x = some (.int k a)) (hy : evO L y = some (.int j b)) (hb : 0 ≤ b) : SD P F K L (.binOp .shr t x y t') (.int k (a.fdiv (2 ^ (min b.toNat k.bits)))) := by
  intro ι ρ he o' ho w _
  obtain ⟨dst, op, type, pos, after, guard⟩ := o'
  simp only at ho
  subst ho
  have : ¬ b < 0 := by omega
  simp [execOp, he _ _ hx, he _ _ hy, binOp, eqGuard, Op.shift, this]
/-- elements of slices, arrays in memory, strings -/
theorem SD.idxS {t el : TypeId} {x i : Operand} {a : Addr} {n c : Nat} {k : IntKind} {q : Int} {ti tj : Ty} (ht : Θ.lookup t = some ti) (hk : ti.k = .slice el) (hj : Θ.lookup el = some tj)
    (hx : evO L x = some (.slice (some a) n c)) (hi : evO L i = some (.int k q)) (h0 : 0 ≤ q) (h1 : q < n) : SD P F K L (.indexAddr t x i) (.pointer (some (addA a (q.toNat * tj.size)))) := by
  intro ι ρ he o' ho w _
  obtain ⟨dst, op, type, pos, after, guard⟩ := o'
  simp only at ho
  subst ho
  obtain ⟨d, hd, hkd⟩ := (tab_ty hT ht).und
  rw [hk] at hkd
  cases d <;> try (simp [kindB] at hkd; done)
  simp only [kindB, beq_iff_eq] at hkd
  subst hkd
  simp [execOp, he _ _ hx, he _ _ hi, Instr.indexAt, asIntOf, run_underlying hd, h0, h1, (tab_ty hT hj).run_size, cA_addA]
theorem SD.idxA {t el : TypeId} {x i : Operand} {a : Addr} {n : Nat} {k : IntKind} {q : Int} {ti tj : Ty} (ht : Θ.lookup t = some ti) (hk : ti.k = .array n el) (hj : Θ.lookup el = some tj)
    (hx : evO L x = some (.pointer (some a))) (hi : evO L i = some (.int k q)) (h0 : 0 ≤ q) (h1 : q < n) : SD P F K L (.indexAddr t x i) (.pointer (some (addA a (q.toNat * tj.size)))) := by
  intro ι ρ he o' ho w _
  obtain ⟨dst, op, type, pos, after, guard⟩ := o'
  simp only at ho
  subst ho
  obtain ⟨d, hd, hkd⟩ := (tab_ty hT ht).und
  rw [hk] at hkd
  cases d <;> try (simp [kindB] at hkd; done)
  simp only [kindB, Bool.and_eq_true, beq_iff_eq] at hkd
  obtain ⟨rfl, rfl⟩ := hkd
  simp [execOp, he _ _ hx, he _ _ hi, Instr.indexAt, Instr.sureAddr, asIntOf, run_underlying hd, h0, h1, (tab_ty hT hj).run_size, cA_addA]
def byteAt (s : ByteArray) (i : Nat) : Int := ((s.data.toList.getD i 0).toNat : Int)
theorem SD.idxStr {t : TypeId} {x i : Operand} {s : ByteArray} {k : IntKind} {q : Int} {ti : Ty} (ht : Θ.lookup t = some ti) (hk : ti.k = .string)
    (hx : evO L x = some (.string s)) (hi : evO L i = some (.int k q)) (h0 : 0 ≤ q) (h1 : q < s.size) : SD P F K L (.index t x i) (.int .u8 (byteAt s q.toNat)) := by
  intro ι ρ he o' ho w _
  obtain ⟨dst, op, type, pos, after, guard⟩ := o'
  simp only at ho
  subst ho
  obtain ⟨d, hd, hkd⟩ := (tab_ty hT ht).und
  rw [hk] at hkd
  cases d <;> try (simp [kindB] at hkd; done)
  have hlt : q.toNat < s.size := by omega
  have e1 : s[q.toNat]? = some (s.data.toList.getD q.toNat 0) := by
    rw [getElem?_pos s q.toNat hlt]
    have : q.toNat < s.data.toList.length := by simpa using hlt
    simp [List.getD_eq_getElem?_getD, List.getElem?_eq_getElem this]
    rfl
  simp [execOp, he _ _ hx, he _ _ hi, Instr.index, asIntOf, run_underlying hd, h0, e1, byteAt]
end
end Go.Proofs.Ytnkddjdmpnghmaa.Am
namespace Go.Proofs.Ytnkddjdmpnghmaa.Am
set_option linter.unusedSimpArgs false
set_option linter.unusedVariables false
open Go Go.RowKit
def lookN (F : Mem) (a : Addr) : Nat → Option (List Value)
  | 0 => some []
  | n + 1 => match look F a with
    | some v => match lookN F (addA a 1) n with
      | some l => some (v :: l)
      | none => none
    | none => none
def rdN (F : Mem) (K : Own) (a : Addr) (n : Nat) : Option (List Value) := match a.spot with
  | some (_ + 1) => if n = 0 then some [] else none
  | some 0 => match K.lookup a.block with
    | some r => if a.off + n ≤ r.cs.length then some ((r.cs.drop a.off).take n) else none
    | none => none
  | none => lookN F a n
theorem addA_zero (a : Addr) : addA a 0 = a := by obtain ⟨b, o, s⟩ := a; rcases s with _ | _ | s <;> simp [addA]
theorem addA_addA (a : Addr) (n m : Nat) : addA (addA a n) m = addA a (n + m) := by
  obtain ⟨b, o, s⟩ := a
  rcases s with _ | _ | s
  · simp [addA, Nat.add_assoc]
  · simp [addA, Nat.add_assoc]
  · by_cases h : n = 0
    · subst h; simp [addA]
    · have : n + m ≠ 0 := by omega
      simp [addA, h, this, Nat.add_assoc]
theorem lookN_spec {F : Mem} : ∀ {n : Nat} {a : Addr} {cs : List Value}, lookN F a n = some cs → cs.length = n ∧ ∀ j v, cs[j]? = some v → look F (addA a j) = some v
  | 0, a, cs, h => by simp only [lookN, Option.some.injEq] at h; subst h; exact ⟨rfl, fun j v h => by simp at h⟩
  | n + 1, a, cs, h => by
    simp only [lookN] at h
    split at h <;> try (simp at h; done)
    rename_i v hv
    split at h <;> try (simp at h; done)
    rename_i l hl
    simp only [Option.some.injEq] at h
    subst h
    obtain ⟨h1, h2⟩ := lookN_spec hl
    refine ⟨by simp [h1], fun j u hj => ?_⟩
    cases j with
    | zero => simp only [List.getElem?_cons_zero, Option.some.injEq] at hj; subst hj; rw [addA_zero]; exact hv
    | succ j =>
      have := h2 j u (by simpa using hj)
      rw [← this, addA_addA, Nat.add_comm 1 j]
theorem St.rdN {F : Mem} {ι : Nat → Nat} {K : Own} {w : World} (h : St F ι K w) {a : Addr} {n : Nat} {cs : List Value} (hv : rdN F K a n = some cs) :
    cs.length = n ∧ ∀ j v, (cs.map (c1 ι))[j]? = some v → w.cell? ((cA ι a).add j) = some v := by
  obtain ⟨b, o, s⟩ := a
  rcases s with _ | _ | s
  · obtain ⟨h1, h2⟩ := lookN_spec (show lookN F ⟨b, o, none⟩ n = some cs from hv)
    refine ⟨h1, fun j v hj => ?_⟩
    rw [List.getElem?_map] at hj
    cases hu : cs[j]? with
    | none => simp [hu] at hj
    | some u =>
      simp only [hu, Option.map_some, Option.some.injEq] at hj
      subst hj
      obtain ⟨h3, h4⟩ := h.look_cell (a := addA ⟨b, o, none⟩ j) rfl (h2 j u hu) ι
      rw [cA_ext, ← h3]
      congr 1
      simp only [addA, Addr.add]
      split <;> simp_all
  · simp only [Am.rdN] at hv
    split at hv <;> try (simp at hv; done)
    rename_i r hr
    split at hv <;> try (simp at hv; done)
    rename_i hle
    simp only [Option.some.injEq] at hv
    subst hv
    obtain ⟨_, hh, _⟩ := h.own _ (lookup_mem hr)
    refine ⟨by simp; omega, fun j v hj => ?_⟩
    have : (r.c ι).cs[o + j]? = some v := by
      rw [← hj]
      have hlt : j < n := by
        have := (List.getElem?_eq_some_iff.1 hj).1
        simp at this; omega
      simp [Row.c, List.getElem?_map, List.getElem?_take, List.getElem?_drop, hlt]
    have := hh.cell this
    rw [← this]
    simp only [Nat.zero_add, cA_own]
    congr 1
    simp only [Addr.add]
    split <;> simp_all
  · simp only [Am.rdN] at hv
    split at hv
    · simp only [Option.some.injEq] at hv
      subst hv
      exact ⟨by simp [*], fun j v hj => by simp at hj⟩
    · cases hv
theorem St.own_one {F : Mem} {ι : Nat → Nat} {K : Own} {w : World} (h : St F ι K w) {a : Addr} {v : Value} (hv : rdA F K a = some v) : v.oneCell' = true := by
  obtain ⟨b, o, s⟩ := a
  rcases s with _ | _ | s
  · obtain ⟨h1, h2⟩ := h.look_cell (a := ⟨b, o, none⟩) rfl hv ι
    cases v <;> first | rfl | simp [plain1] at h2
  · simp only [rdA] at hv
    rw [Option.bind_eq_some_iff] at hv
    obtain ⟨r, hr, hc⟩ := hv
    obtain ⟨_, hh, _⟩ := h.own _ (lookup_mem hr)
    obtain ⟨junk, fr, _, _, _, h1⟩ := hh
    have : c1 ι v ∈ (r.c ι).cs ++ junk := List.mem_append_left _ (List.mem_map.2 ⟨v, List.mem_of_getElem? hc, rfl⟩)
    rw [← c1_oneCell ι]; exact h1 _ this
  · cases hv
section
variable {P : Program} {Θ : Tab} {F : Mem} {K : Own} {L : Slots} (hT : tabOk P Θ = true)
include hT
theorem SD.load {t : TypeId} {x : Operand} {a : Addr} {ti : Ty} {v : Value} (ht : Θ.lookup t = some ti) (hag : aggB ti.k = false) (hx : evO L x = some (.pointer (some a))) (hv : rdA F K a = some v) : SD P F K L (.load t x) v := by
  intro ι ρ he o' ho w hS
  obtain ⟨dst, op, type, pos, after, guard⟩ := o'
  simp only at ho
  subst ho
  have h1 := hS.own_one hv
  simp only [execOp, he _ _ hx, cV_ptr, Instr.loadAt, Instr.sureAddr, loadVar, Sem.run_bind, Sem.run_pure, Result.andThen_ok, (tab_ty hT ht).run_agg, hag, Bool.false_eq_true, if_false, run_load, hS.rd hv, cV_one ι h1]
theorem SD.loadN {t : TypeId} {x : Operand} {a : Addr} {ti : Ty} {cs : List Value} (ht : Θ.lookup t = some ti) (hag : aggB ti.k = true) (hx : evO L x = some (.pointer (some a))) (hv : rdN F K a ti.size = some cs) : SD P F K L (.load t x) (.agg ⟨cs⟩) := by
  intro ι ρ he o' ho w hS
  obtain ⟨dst, op, type, pos, after, guard⟩ := o'
  simp only at ho
  subst ho
  obtain ⟨hl, hc⟩ := hS.rdN hv
  have := run_loadCells_list (P := P) (w := w) (cA ι a) (cs.map (c1 ι)) hc
  rw [List.length_map, hl] at this
  simp only [execOp, he _ _ hx, cV_ptr, Instr.loadAt, Instr.sureAddr, loadVar, Sem.run_bind, Sem.run_pure, Result.andThen_ok, (tab_ty hT ht).run_agg, hag, if_true, (tab_ty hT ht).run_size, this, cV_agg]
  simp
/-- a cut of a slice: where nothing is left of the room the address stays -/
theorem SD.cutS {t el : TypeId} {x : Operand} {lo hi : Option Operand} {a : Addr} {n c l h : Nat} {ti tj : Ty} (ht : Θ.lookup t = some ti) (hk : ti.k = .slice el) (hj : Θ.lookup el = some tj) (hx : evO L x = some (.slice (some a) n c))
    (hlo : match lo with | some y => ∃ k, evO L y = some (.int k (l : Int)) | none => l = 0) (hhi : match hi with | some y => ∃ k, evO L y = some (.int k (h : Int)) | none => h = n) (h0 : l ≤ h) (h1 : h ≤ c) :
    SD P F K L (.slice t x lo hi none) (.slice (some (if c = l then a else addA a (l * tj.size))) (h - l) (c - l)) := by
  intro ι ρ he o' ho w _
  obtain ⟨dst, op, type, pos, after, guard⟩ := o'
  simp only at ho
  subst ho
  obtain ⟨d, hd, hkd⟩ := (tab_ty hT ht).und
  rw [hk] at hkd
  cases d <;> try (simp [kindB] at hkd; done)
  simp only [kindB, beq_iff_eq] at hkd
  subst hkd
  have e2 : (if c = l then some (cA ι a) else some ((cA ι a).add (l * tj.size))) = some (cA ι (if c = l then a else addA a (l * tj.size))) := by
    split
    · rfl
    · rw [cA_addA]
  cases lo with
  | none =>
    simp only at hlo
    subst hlo
    simp only [Nat.zero_mul] at e2
    cases hi with
    | none =>
      simp only at hhi
      subst hhi
      simp [execOp, he _ _ hx, Instr.sliceAt, Instr.slice, Instr.sliceBounds, run_underlying hd, (tab_ty hT hj).run_size]; exact e2
    | some y =>
      obtain ⟨k, hy⟩ := hhi
      simp [execOp, he _ _ hx, he _ _ hy, Instr.sliceAt, Instr.slice, Instr.sliceBounds, Instr.sliceBound, asIntOf, run_underlying hd, h1, (tab_ty hT hj).run_size]; exact e2
  | some z =>
    obtain ⟨k', hz⟩ := hlo
    cases hi with
    | none =>
      simp only at hhi
      subst hhi
      simp [execOp, he _ _ hx, he _ _ hz, Instr.sliceAt, Instr.slice, Instr.sliceBounds, Instr.sliceBound, asIntOf, run_underlying hd, h0, (tab_ty hT hj).run_size, ← e2]
    | some y =>
      obtain ⟨k, hy⟩ := hhi
      simp [execOp, he _ _ hx, he _ _ hy, he _ _ hz, Instr.sliceAt, Instr.slice, Instr.sliceBounds, Instr.sliceBound, asIntOf, run_underlying hd, h0, h1, (tab_ty hT hj).run_size, ← e2]
end
end Go.Proofs.Ytnkddjdmpnghmaa.Am
namespace Go.Proofs.Ytnkddjdmpnghmaa.Am
set_option linter.unusedSimpArgs false
set_option linter.unusedVariables false
open Go Go.RowKit
def nt0 (t : Nat) : Value → Bool
  | .pointer (some a) => match a.spot with
    | some 0 => a.block != t
    | _ => true
  | .slice (some a) _ _ => match a.spot with
    | some 0 => a.block != t
    | _ => true
  | _ => true
def nt1 (t : Nat) : Value → Bool
  | .func _ f c => f.toList.all (nt0 t) && c.toList.all (nt0 t)
  | v => nt0 t v
def nt2 (t : Nat) : Value → Bool
  | .agg cs => cs.toList.all (nt1 t)
  | v => nt1 t v
def ntV (t : Nat) : Value → Bool
  | .tuple vs => vs.toList.all (nt2 t)
  | v => nt2 t v
def ntL (t : Nat) (L : Slots) : Bool := L.all fun x => ntV t x.2
def ntK (t : Nat) (K : Own) : Bool := K.all fun x => x.1 != t && (x.2.flat || x.2.cs.all (nt1 t))
def upd (ι : Nat → Nat) (t b : Nat) : Nat → Nat := fun x => if x = t then b else ι x
section
variable {ι κ : Nat → Nat} {t : Nat} (hk : ∀ u, u ≠ t → κ u = ι u)
include hk
theorem cA_nt {a : Addr} (h : (match a.spot with | some 0 => a.block != t | _ => true) = true) : cA κ a = cA ι a := by
  obtain ⟨b, o, s⟩ := a
  rcases s with _ | _ | s
  · rfl
  · simp only [bne_iff_ne, ne_eq] at h
    simp only [cA, hk _ h]
  · rfl
theorem c0_nt {v : Value} (h : nt0 t v = true) : c0 κ v = c0 ι v := by
  cases v with
  | pointer a => cases a with
    | none => rfl
    | some a => simp only [c0, cA_nt hk h]
  | slice a n c => cases a with
    | none => rfl
    | some a => simp only [c0, cA_nt hk h]
  | _ => rfl
omit hk in
theorem map_nt {f g : Value → Value} {p : Value → Bool} (hfg : ∀ v, p v = true → f v = g v) {vs : Array Value} (h : vs.toList.all p = true) : vs.map f = vs.map g :=
  Array.map_congr_left fun v hv => hfg v (List.all_eq_true.1 h v (by simpa using hv))
theorem c1_nt {v : Value} (h : nt1 t v = true) : c1 κ v = c1 ι v := by
  cases v with
  | func fn x y =>
    simp only [nt1, Bool.and_eq_true] at h
    simp only [c1_func, map_nt (fun v => c0_nt hk) h.1, map_nt (fun v => c0_nt hk) h.2]
  | pointer a => exact c0_nt hk (by simpa only [nt1] using h)
  | slice a n c => exact c0_nt hk (by simpa only [nt1] using h)
  | _ => rfl
theorem c2_nt {v : Value} (h : nt2 t v = true) : c2 κ v = c2 ι v := by
  cases v with
  | agg cs => simp only [c2_agg, map_nt (fun v => c1_nt hk) (show cs.toList.all (nt1 t) = true from h)]
  | _ => exact c1_nt hk (by simpa only [nt2] using h)
theorem cV_nt {v : Value} (h : ntV t v = true) : cV κ v = cV ι v := by
  cases v with
  | tuple vs => simp only [cV_tuple, map_nt (fun v => c2_nt hk) (show vs.toList.all (nt2 t) = true from h)]
  | _ => exact c2_nt hk (by simpa only [ntV] using h)
theorem Row.c_nt {r : Row} (h : r.cs.all (nt1 t) = true) : r.c κ = r.c ι := by
  unfold Row.c
  rw [List.map_congr_left fun v hv => c1_nt hk (List.all_eq_true.1 h v hv)]
theorem Fr.nt {N : Nat} {L : Slots} {a : Act} (h : Fr N ι L a) (hL : ntL t L = true) : Fr N κ L a :=
  ⟨h.size, h.defers, fun s v hv => by rw [cV_nt hk (List.all_eq_true.1 hL _ (lookup_mem hv))]; exact h.slot s v hv⟩
end
theorem Row.c_flat {r : Row} (ι κ : Nat → Nat) (h : ∀ v ∈ r.cs, plain1 v = true) : r.c κ = r.c ι := by
  unfold Row.c
  rw [List.map_congr_left fun v hv => c1_plain κ ι (h v hv)]
theorem nt0_plain (t : Nat) {v : Value} (h : plain0 v = true) : nt0 t v = true := by
  cases v with
  | pointer a => cases a with
    | none => rfl
    | some a => obtain ⟨b, o, s⟩ := a; rcases s with _ | _ | s <;> first | rfl | cases h
  | slice a n c => cases a with
    | none => rfl
    | some a => obtain ⟨b, o, s⟩ := a; rcases s with _ | _ | s <;> first | rfl | cases h
  | _ => rfl
theorem nt1_plain (t : Nat) {v : Value} (h : plain1 v = true) : nt1 t v = true := by
  cases v with
  | func fn x y =>
    simp only [plain1, Bool.and_eq_true] at h
    have aux : ∀ l : Array Value, l.all plain0 = true → l.toList.all (nt0 t) = true := fun l hl =>
      List.all_eq_true.2 fun u hu => nt0_plain t ((Array.all_eq_true'.1 hl) u (by simpa using hu))
    simp only [nt1, Bool.and_eq_true]
    exact ⟨aux _ h.1, aux _ h.2⟩
  | agg cs => simp [plain1] at h
  | tuple cs => simp [plain1] at h
  | pointer a => exact nt0_plain t (by simpa only [plain1] using h)
  | slice a n c => exact nt0_plain t (by simpa only [plain1] using h)
  | _ => rfl
theorem upd_ne (ι : Nat → Nat) {t b u : Nat} (h : u ≠ t) : upd ι t b u = ι u := by simp [upd, h]
theorem upd_eq (ι : Nat → Nat) (t b : Nat) : upd ι t b t = b := by simp [upd]
theorem St.rowc {F : Mem} {ι : Nat → Nat} {K : Own} {w : World} (h : St F ι K w) {t b : Nat} (hK : ntK t K = true) {x : Nat × Row} (hx : x ∈ K) : x.1 ≠ t ∧ x.2.c (upd ι t b) = x.2.c ι := by
  have := List.all_eq_true.1 hK x hx
  simp only [Bool.and_eq_true, Bool.or_eq_true, bne_iff_ne, ne_eq] at this
  refine ⟨this.1, ?_⟩
  rcases this.2 with hf | hf
  · exact Row.c_flat _ _ ((h.own x hx).2.2 hf)
  · exact Row.c_nt (fun u hu => upd_ne ι hu) hf
theorem St.lt_own {F : Mem} {ι : Nat → Nat} {K : Own} {w : World} (h : St F ι K w) : ∀ b ∈ (K.map fun x => ι x.1) ++ F.ch.map Prod.fst, b < w.heap.size := by
  intro b hb
  rcases List.mem_append.1 hb with hb | hb
  · obtain ⟨x, hx, rfl⟩ := List.mem_map.1 hb
    exact (h.own x hx).2.1.lt
  · obtain ⟨x, hx, rfl⟩ := List.mem_map.1 hb
    exact (h.ext x hx).2.lt
theorem Holds.push {w w' : World} {b : Nat} {r : Row} (h : Holds w b r) {o : Obj} (e : w'.heap = w.heap.push o) : Holds w' b r :=
  h.congr (by rw [e, Array.getElem?_push, if_neg (by have := h.lt; omega)])
/-- a new block -/
theorem St.new {F : Mem} {ι : Nat → Nat} {K : Own} {w w' : World} (h : St F ι K w) {t : Nat} (hK : ntK t K = true) {r : Row} {o : Obj} (hw : w'.heap = w.heap.push o) (hos : w'.os = w.os) (htp : w'.tape = w.tape) (hou : w'.output = w.output)
    (hr : Holds w' w.heap.size (r.c (upd ι t w.heap.size))) (hflat : r.flat = true → ∀ v ∈ r.cs, plain1 v = true) : St F (upd ι t w.heap.size) ((t, r) :: K) w' := by
  have hmap : (K.map fun x => upd ι t w.heap.size x.1) = K.map fun x => ι x.1 := List.map_congr_left fun x hx => upd_ne ι (h.rowc (b := 0) hK hx).1
  refine ⟨?_, ?_, ?_, ?_⟩
  · have hb := h.below
    refine ⟨hos.trans hb.os, htp.trans hb.tape, hou.trans hb.output, by rw [hw, Array.size_push]; have := hb.size; omega, fun k hk => ?_⟩
    rw [hw, Array.getElem?_push, if_neg (by have := hb.size; omega)]
    exact hb.block k hk
  · simp only [List.map_cons, List.cons_append, hmap, upd_eq, List.nodup_cons]
    exact ⟨fun hm => by have := h.lt_own _ hm; omega, h.nodup⟩
  · intro x hx
    rcases List.mem_cons.1 hx with rfl | hx
    · simp only [upd_eq]
      exact ⟨h.below.size, hr, hflat⟩
    · obtain ⟨h1, h2⟩ := h.rowc (b := w.heap.size) hK hx
      obtain ⟨h3, h4, h5⟩ := h.own x hx
      rw [upd_ne ι h1, h2]
      exact ⟨h3, h4.push hw, h5⟩
  · intro x hx
    obtain ⟨h3, h4⟩ := h.ext x hx
    exact ⟨h3, h4.push hw⟩
/-- a draw -/
theorem St.same {F : Mem} {ι : Nat → Nat} {K : Own} {w w' : World} (h : St F ι K w) (hw : w'.heap = w.heap) (hos : w'.os = w.os) (htp : w'.tape = w.tape) (hou : w'.output = w.output) : St F ι K w' :=
  ⟨⟨hos.trans h.below.os, htp.trans h.below.tape, hou.trans h.below.output, by rw [hw]; exact h.below.size, fun k hk => by rw [hw]; exact h.below.block k hk⟩, h.nodup,
    fun x hx => ⟨(h.own x hx).1, (h.own x hx).2.1.congr (by rw [hw]), (h.own x hx).2.2⟩, fun x hx => ⟨(h.ext x hx).1, (h.ext x hx).2.congr (by rw [hw])⟩⟩
/-- What an operation does: a step to another state, of which T holds. -/
def Go1 (P : Program) (N : Nat) (D : List Nat) (F : Mem) (L : Slots) (K : Own) (o : Oper) (T : Mem → Slots → Own → Prop) : Prop :=
  ∀ (ι : Nat → Nat) (a : Act) (w : World), Fr N ι L a → St F ι K w → ∃ (ι' : Nat → Nat) (w' : World) (v : Value) (F' : Mem) (L' : Slots) (K' : Own),
    ((execOp a.eval o).run P w = .ok (.value v) w' ∨ ((execOp a.eval o).run P w = .ok .skip w' ∧ v = undef)) ∧ Fr N ι' L' (a.put o.dst v) ∧ St F' ι' K' w' ∧ (∀ t ∈ D, ι' t = ι t) ∧ T F' L' K'
section
variable {P : Program} {Θ : Tab} {N : Nat} {D : List Nat} {F : Mem} {K : Own} {L : Slots} {T : Mem → Slots → Own → Prop}
/-- an operation that leaves a value -/
theorem Go1.val {o : Oper} {v : Value} {d : Nat} (hd : o.dst = some d) (hN : d < N) (h : SD P F K L o.op v) (hT : T F ((d, v) :: L) K) : Go1 P N D F L K o T :=
  fun ι a w hF hS => ⟨ι, w, cV ι v, F, _, K, .inl (h ι a.eval (fun x u hu => hF.ev hu) o rfl w hS), by rw [hd]; exact hF.put hN v, hS, fun _ _ => rfl, hT⟩
variable (hT : tabOk P Θ = true)
include hT
/-- one cell a part -/
def okV : Value → Bool
  | .tuple _ => false
  | .agg cs => cs.toList.all (·.oneCell')
  | _ => true
omit hT in
theorem okV_cells {v : Value} (h : okV v = true) : (∀ vs, v ≠ .tuple vs) ∧ ∀ u ∈ cellsL v, u.oneCell' = true := by
  cases v with
  | tuple vs => simp [okV] at h
  | agg cs => exact ⟨fun vs e => (by cases e), List.all_eq_true.1 h⟩
  | _ => exact ⟨fun vs e => (by cases e), fun u hu => by simp only [cellsL, List.mem_singleton] at hu; subst hu; rfl⟩
omit hT in
theorem nt_cells {t : Nat} {v : Value} (h : ntV t v = true) (h1 : ∀ vs, v ≠ .tuple vs) : (cellsL v).all (nt1 t) = true := by
  cases v with
  | tuple vs => exact absurd rfl (h1 vs)
  | agg cs => exact h
  | _ => simp only [cellsL, List.all_cons, List.all_nil, Bool.and_true]; exact h
omit hT in
theorem Fr.nt_ev {t : Nat} (hL : ntL t L = true) {x : Operand} {v : Value} (hx : evO L x = some v) : ntV t v = true := by
  cases x with
  | tmp s => exact List.all_eq_true.1 hL _ (lookup_mem hx)
  | const u =>
    simp only [evO] at hx
    split at hx <;> try (simp at hx; done)
    rename_i hc
    simp only [Option.some.injEq] at hx
    subst hx
    cases u with
    | pointer a => cases a <;> first | rfl | simp [cOk] at hc
    | slice a n c => cases a <;> first | rfl | simp [cOk] at hc
    | tuple vs =>
      simp only [cOk, beq_iff_eq] at hc
      have : vs = #[] := Array.eq_empty_of_size_eq_zero hc
      subst this; rfl
    | _ => first | rfl | simp [cOk] at hc
  | global g => simp only [evO, Option.some.injEq] at hx; subst hx; rfl
  | func f => simp only [evO, Option.some.injEq] at hx; subst hx; rfl
omit hT in
theorem holds_new {w w' : World} {e : TypeId} {cs : List Value} (r : Row) (hr : r.elem = e ∧ r.cs = cs ∧ r.room = cs.length ∧ r.fz = false) (hw : w'.heap = w.heap.push (.cells cs.toArray e)) (h1 : ∀ v ∈ cs, v.oneCell' = true) : Holds w' w.heap.size r := by
  obtain ⟨h2, h3, h4, h5⟩ := hr
  refine ⟨[], (0, 0), ?_, by rw [h3, h4]; simp, .inl rfl, by rw [h3]; simpa using h1⟩
  rw [hw, Array.getElem?_push, if_pos rfl, h2, h3]; simp
/-- a variable, made -/
theorem Go1.alloc {o : Oper} {e : TypeId} {d t : Nat} {i : Ty} (ho : o.op = .alloc e) (hd : o.dst = some d) (hN : d < N) (hi : Θ.lookup e = some i) (h1 : i.zero.all (·.oneCell') = true)
    (hL : ntL t L = true) (hK : ntK t K = true) (hD : D.contains t = false) (h : T F ((d, .pointer (some ⟨t, 0, some 0⟩)) :: L) ((t, { elem := e, cs := i.zero, room := i.zero.length, flat := false }) :: K)) : Go1 P N D F L K o T := by
  refine fun ι a w hF hS => ⟨upd ι t w.heap.size, { w with heap := w.heap.push (.cells i.zero.toArray e) }, .pointer (some ⟨w.heap.size, 0, none⟩), F, _, _, .inl ?_, ?_, ?_, fun u hu => upd_ne ι (fun e => by subst e; simp at hD; exact hD hu), h⟩
  · obtain ⟨z, hz, hzl, _, _⟩ := (tab_ty hT hi).run_zero w
    obtain ⟨dst, op, type, pos, after, guard⟩ := o
    simp only at ho
    subst ho
    have : z.cells = i.zero.toArray := by rw [← hzl]
    simp [execOp, Instr.alloc, hz, newVar, newRow, this]
  · have := (hF.nt (fun u hu => upd_ne ι (t := t) (b := w.heap.size) hu) hL).put hN (.pointer (some ⟨t, 0, some 0⟩))
    rw [hd]
    simpa [upd_eq] using this
  · refine hS.new hK rfl rfl rfl rfl ?_ (fun h => by cases h)
    have hz := (tab_ty hT hi).zero_plain (upd ι t w.heap.size)
    exact holds_new _ ⟨rfl, by simp only [Row.c, hz], rfl, rfl⟩ rfl (List.all_eq_true.1 h1)
omit hT in
/-- a variable, made of a value -/
theorem Go1.box {o : Oper} {e : TypeId} {x : Operand} {d t : Nat} {v : Value} (ho : o.op = .box e x) (hd : o.dst = some d) (hN : d < N) (hx : evO L x = some v) (hv : okV v = true)
    (hL : ntL t L = true) (hK : ntK t K = true) (hD : D.contains t = false) (h : T F ((d, .pointer (some ⟨t, 0, some 0⟩)) :: L) ((t, { elem := e, cs := cellsL v, room := (cellsL v).length, flat := false }) :: K)) : Go1 P N D F L K o T := by
  obtain ⟨hnt, h1⟩ := okV_cells hv
  refine fun ι a w hF hS => ⟨upd ι t w.heap.size, { w with heap := w.heap.push (.cells ((cellsL v).map (c1 ι)).toArray e) }, .pointer (some ⟨w.heap.size, 0, none⟩), F, _, _, .inl ?_, ?_, ?_, fun u hu => upd_ne ι (fun e => by subst e; simp at hD; exact hD hu), h⟩
  · obtain ⟨dst, op, type, pos, after, guard⟩ := o
    simp only at ho
    subst ho
    simp [execOp, Instr.box, newVar, newRow, hF.ev hx, cellsL_c ι hnt]
  · have := (hF.nt (fun u hu => upd_ne ι (t := t) (b := w.heap.size) hu) hL).put hN (.pointer (some ⟨t, 0, some 0⟩))
    rw [hd]
    simpa [upd_eq] using this
  · refine hS.new hK rfl rfl rfl rfl ?_ (fun h => by cases h)
    have hz : (cellsL v).map (c1 (upd ι t w.heap.size)) = (cellsL v).map (c1 ι) := List.map_congr_left fun u hu => c1_nt (fun u hu => upd_ne ι hu) (List.all_eq_true.1 (nt_cells (Fr.nt_ev hL hx) hnt) u hu)
    exact holds_new _ ⟨rfl, by simp only [Row.c, hz], by simp [Row.c], rfl⟩ rfl (fun u hu => by obtain ⟨u', hu', rfl⟩ := List.mem_map.1 hu; rw [c1_oneCell]; exact h1 _ hu')
end
end Go.Proofs.Ytnkddjdmpnghmaa.Am
namespace Go.Proofs.Ytnkddjdmpnghmaa.Am
set_option linter.unusedSimpArgs false
set_option linter.unusedVariables false
open Go Go.RowKit
def setK (t : Nat) (r : Row) : Own → Own
  | [] => []
  | x :: K => if x.1 = t then (t, r) :: K else x :: setK t r K
theorem addA_none (b o n : Nat) : (⟨b, o, none⟩ : Addr).add n = ⟨b, o + n, none⟩ := by
  unfold Addr.add; split <;> simp_all
theorem heap_setCell {w : World} {b o : Nat} {v : Value} {cur : Array Value} {e : TypeId} {fr : Nat × Nat} (h : w.heap[b]? = some (.cells cur e fr)) :
    (w.setCell ⟨b, o, none⟩ v).heap[b]? = some (.cells (cur.setIfInBounds o v) e fr) := by
  simp only [World.setCell, Array.getElem?_modify, if_true, h, Option.map_some]
  simp
theorem run_storeCells_row {P : Program} (b o : Nat) (e : TypeId) (fr : Nat × Nat) : ∀ (vs : List Value) (i : Nat) (cur : List Value) (w : World), w.heap[b]? = some (.cells cur.toArray e fr) → o + i + vs.length ≤ cur.length →
    (fr = (0, 0) ∨ cur.length ≤ fr.1) → (∀ v ∈ vs, v.oneCell' = true) →
    ∃ w', (storeCells ⟨b, o, none⟩ vs i).run P w = .ok () w' ∧ w'.heap[b]? = some (.cells (putL cur (o + i) vs).toArray e fr) ∧ (∀ k, k ≠ b → w'.heap[k]? = w.heap[k]?) ∧ w'.heap.size = w.heap.size ∧ w'.os = w.os ∧ w'.tape = w.tape ∧ w'.output = w.output
  | [], i, cur, w, h, _, _, _ => ⟨w, rfl, h, fun _ _ => rfl, rfl, rfl, rfl, rfl⟩
  | v :: vs, i, cur, w, h, hl, hf, h1 => by
    simp only [List.length_cons] at hl
    have hc : w.cell? ⟨b, o + i, none⟩ = some (cur[o + i]'(by omega)) := by
      simp only [World.cell?, h]
      simp [List.getElem?_eq_getElem (show o + i < cur.length by omega)]
    have hz : w.frozen? ⟨b, o + i, none⟩ = false := by
      obtain ⟨lo, hi⟩ := fr
      simp only [World.frozen?, h]
      simp only [Bool.and_eq_false_iff, decide_eq_false_iff_not]
      rcases hf with hf | hf
      · simp only [Prod.mk.injEq] at hf; omega
      · simp only at hf; omega
    have hst : (store ((⟨b, o, none⟩ : Addr).add i) v).run P w = .ok () (w.setCell ⟨b, o + i, none⟩ v) := by
      rw [addA_none, run_store P w _ v _ (h1 v List.mem_cons_self), hc]
      simp only [hz, Bool.false_eq_true, if_false]
    have hb := heap_setCell (o := o + i) (v := v) h
    have hb' : (w.setCell ⟨b, o + i, none⟩ v).heap[b]? = some (.cells (cur.set (o + i) v).toArray e fr) := by rw [hb]; simp
    obtain ⟨w', r1, r2, r3, r4, r5, r6, r7⟩ := run_storeCells_row (P := P) b o e fr vs (i + 1) (cur.set (o + i) v) _ hb' (by simp; omega) (by simpa using hf) (fun u hu => h1 u (List.mem_cons_of_mem _ hu))
    refine ⟨w', ?_, ?_, fun k hk => ?_, ?_, r5, r6, r7⟩
    · simp only [storeCells, Sem.run_bind, hst, Result.andThen_ok]; exact r1
    · rw [r2]; rfl
    · rw [r3 k hk]; exact Below.heap_setCell w _ v k hk
    · rw [r4]; simp [World.setCell]
theorem putL_append : ∀ (vs cs junk : List Value) (o : Nat), o + vs.length ≤ cs.length → putL (cs ++ junk) o vs = putL cs o vs ++ junk
  | [], _, _, _, _ => rfl
  | v :: vs, cs, junk, o, h => by
    simp only [List.length_cons] at h
    simp only [putL, List.set_append_left _ _ (show o < cs.length by omega)]
    exact putL_append vs (cs.set o v) junk (o + 1) (by simp; omega)
theorem putL_end : ∀ (vs cs junk : List Value), vs.length ≤ junk.length → putL (cs ++ junk) cs.length vs = cs ++ vs ++ junk.drop vs.length
  | [], cs, junk, _ => by simp [putL]
  | v :: vs, cs, [], h => by simp at h
  | v :: vs, cs, j :: junk, h => by
    simp only [List.length_cons] at h
    have e : (cs ++ j :: junk).set cs.length v = (cs ++ [v]) ++ junk := by simp
    simp only [putL, e]
    have := putL_end vs (cs ++ [v]) junk (by omega)
    rw [show (cs ++ [v]).length = cs.length + 1 from by simp] at this
    rw [this]; simp
theorem putL_mem : ∀ (vs cs : List Value) (o : Nat) (u : Value), u ∈ putL cs o vs → u ∈ cs ∨ u ∈ vs
  | [], _, _, _, h => .inl h
  | v :: vs, cs, o, u, h => by
    rcases putL_mem vs (cs.set o v) (o + 1) u h with h | h
    · rcases List.mem_or_eq_of_mem_set h with h | h
      · exact .inl h
      · exact .inr (by subst h; exact List.mem_cons_self)
    · exact .inr (List.mem_cons_of_mem _ h)
theorem setK_ids (ι : Nat → Nat) (t : Nat) (r : Row) : ∀ (K : Own), ((setK t r K).map fun x => ι x.1) = K.map fun x => ι x.1
  | [] => rfl
  | x :: K => by
    simp only [setK]
    split
    · rename_i h; simp [h]
    · simp [setK_ids ι t r K]
theorem setK_mem {ι : Nat → Nat} {t : Nat} {r : Row} : ∀ {K : Own}, (K.map fun x => ι x.1).Nodup → ∀ x ∈ setK t r K, x = (t, r) ∨ (x ∈ K ∧ x.1 ≠ t ∧ (∀ y ∈ K, y.1 = t → ι x.1 ≠ ι t))
  | [], _, x, h => by simp [setK] at h
  | y :: K, hn, x, h => by
    simp only [List.map_cons, List.nodup_cons] at hn
    simp only [setK] at h
    split at h
    · rename_i e
      rcases List.mem_cons.1 h with h | h
      · exact .inl h
      · have h2 : ι x.1 ≠ ι t := fun e2 => hn.1 (List.mem_map.2 ⟨x, h, by rw [e2, e]⟩)
        exact .inr ⟨List.mem_cons_of_mem _ h, fun e2 => h2 (by rw [e2]), fun _ _ _ => h2⟩
    · rename_i e
      rcases List.mem_cons.1 h with h | h
      · subst h
        refine .inr ⟨List.mem_cons_self, e, fun z hz hzt => ?_⟩
        rcases List.mem_cons.1 hz with hz | hz
        · subst hz; exact absurd hzt e
        · intro e2; exact hn.1 (List.mem_map.2 ⟨z, hz, by rw [hzt, e2]⟩)
      · rcases setK_mem hn.2 x h with h | ⟨h1, h2, h3⟩
        · exact .inl h
        · refine .inr ⟨List.mem_cons_of_mem _ h1, h2, fun z hz hzt => ?_⟩
          rcases List.mem_cons.1 hz with hz | hz
          · subst hz; exact absurd hzt e
          · exact h3 z hz hzt
/-- one of the call's own rows, written -/
theorem St.set {F : Mem} {ι : Nat → Nat} {K : Own} {w w' : World} (h : St F ι K w) {t : Nat} {r r' : Row} (hr : K.lookup t = some r) (hw : ∀ k, k ≠ ι t → w'.heap[k]? = w.heap[k]?) (hsz : w'.heap.size = w.heap.size)
    (hos : w'.os = w.os) (htp : w'.tape = w.tape) (hou : w'.output = w.output) (hh : Holds w' (ι t) (r'.c ι)) (hflat : r'.flat = true → ∀ v ∈ r'.cs, plain1 v = true) : St F ι (setK t r' K) w' := by
  obtain ⟨hB, _, _⟩ := h.own _ (lookup_mem hr)
  have hnd := (List.nodup_append.1 h.nodup)
  refine ⟨⟨hos.trans h.below.os, htp.trans h.below.tape, hou.trans h.below.output, by rw [hsz]; exact h.below.size, fun k hk => ?_⟩, by rw [setK_ids]; exact h.nodup, fun x hx => ?_, fun x hx => ?_⟩
  · rw [hw k (by simp only at hB; omega)]; exact h.below.block k hk
  · rcases setK_mem hnd.1 x hx with rfl | ⟨h1, h2, h3⟩
    · exact ⟨hB, hh, hflat⟩
    · obtain ⟨h4, h5, h6⟩ := h.own x h1
      exact ⟨h4, h5.congr (hw _ (h3 _ (lookup_mem hr) rfl)), h6⟩
  · obtain ⟨h4, h5⟩ := h.ext x hx
    refine ⟨h4, h5.congr (hw _ fun e => ?_)⟩
    exact hnd.2.2 (ι t) (List.mem_map.2 ⟨_, lookup_mem hr, rfl⟩) x.1 (List.mem_map.2 ⟨x, hx, rfl⟩) e.symm
section
variable {P : Program} {Θ : Tab} {N : Nat} {D : List Nat} {F : Mem} {K : Own} {L : Slots} {T : Mem → Slots → Own → Prop} (hT : tabOk P Θ = true)
include hT
theorem Go1.store {o : Oper} {ty : TypeId} {x y : Operand} {t off : Nat} {v : Value} {r : Row} {ti : Ty} (ho : o.op = .store ty x y) (hd : o.dst = none) (hi : Θ.lookup ty = some ti)
    (hx : evO L x = some (.pointer (some ⟨t, off, some 0⟩))) (hy : evO L y = some v) (hv : okV v = true) (hr : K.lookup t = some r) (hsz : (cellsL v).length = ti.size) (hle : off + (cellsL v).length ≤ r.cs.length)
    (h : T F L (setK t { r with cs := putL r.cs off (cellsL v), flat := r.flat && (cellsL v).all plain1 } K)) : Go1 P N D F L K o T := by
  obtain ⟨hnt, h1⟩ := okV_cells hv
  intro ι a w hF hS
  obtain ⟨_, hh, hfl⟩ := hS.own _ (lookup_mem hr)
  obtain ⟨junk, fr, hb, hl, hf, hone⟩ := hh
  simp only [Row.c] at hb hl hone
  obtain ⟨w', r1, r2, r3, r4, r5, r6, r7⟩ := run_storeCells_row (P := P) (ι t) off r.elem fr ((cellsL v).map (c1 ι)) 0 (r.cs.map (c1 ι) ++ junk) w hb (by simp at hl ⊢; omega) (by
    rcases hf with hf | hf
    · exact .inl hf
    · right
      have := hf.2
      simp only [Row.c] at this
      simp at hl ⊢
      omega) (fun u hu => by obtain ⟨u', hu', rfl⟩ := List.mem_map.1 hu; rw [c1_oneCell]; exact h1 _ hu')
  refine ⟨ι, w', undef, F, L, _, .inr ⟨?_, rfl⟩, by rw [hd]; exact hF, ?_, fun _ _ => rfl, h⟩
  · obtain ⟨dst, op, type, pos, after, guard⟩ := o
    simp only at ho
    subst ho
    have hc := cellsL_c ι hnt
    have : (cV ι v).cells.size = ti.size := by rw [hc]; simp [hsz]
    simp only [execOp, hF.ev hx, hF.ev hy, cV_ptr, cA_own, Instr.storeAt, Instr.sureAddr, storeVar, Sem.run_bind, Sem.run_pure, Result.andThen_ok, (tab_ty hT hi).run_size, this, ne_eq, not_true_eq_false, if_false, Sem.run_ite]
    rw [hc]
    simp only [r1, Result.andThen_ok]
  · refine hS.set hr r3 r4 r5 r6 r7 ⟨junk, fr, ?_, ?_, ?_, ?_⟩ (fun hf2 u hu => ?_)
    · rw [r2]
      simp only [Row.c, Nat.add_zero]
      rw [putL_append _ _ _ _ (by simp; omega), putL_map]
    · simp only [Row.c, List.length_map, putL_length] at hl ⊢; exact hl
    · exact hf
    · intro u hu
      simp only [Row.c] at hu
      rcases List.mem_append.1 hu with hu | hu
      · obtain ⟨u', hu', rfl⟩ := List.mem_map.1 hu
        rw [c1_oneCell]
        rcases putL_mem _ _ _ _ hu' with hu' | hu'
        · have := hone (c1 ι u') (List.mem_append_left _ (List.mem_map.2 ⟨u', hu', rfl⟩))
          rwa [c1_oneCell] at this
        · exact h1 _ hu'
      · exact hone u (List.mem_append_right _ hu)
    · simp only [Bool.and_eq_true] at hf2
      rcases putL_mem _ _ _ _ hu with hu | hu
      · exact hfl hf2.1 u hu
      · exact List.all_eq_true.1 hf2.2 u hu
end
end Go.Proofs.Ytnkddjdmpnghmaa.Am
namespace Go.Proofs.Ytnkddjdmpnghmaa.Am
set_option linter.unusedSimpArgs false
set_option linter.unusedVariables false
open Go Go.RowKit
def zer (i : Ty) (n : Nat) : List Value := (List.replicate n i.zero).flatten
theorem zer_length (i : Ty) (n : Nat) : (zer i n).length = n * i.zero.length := by
  simp [zer]
theorem zer_one {i : Ty} {z : Value} (h : i.zero = [z]) (n : Nat) : zer i n = List.replicate n z := by
  unfold zer
  rw [h]
  induction n with
  | zero => rfl
  | succ n ih => simp [List.replicate_succ, ih]
theorem flat_get (zs : List Value) : ∀ (m i : Nat), i < m * zs.length → ((List.replicate m zs).flatten)[i]? = zs[i % zs.length]?
  | 0, i, h => by simp at h
  | m + 1, i, h => by
    rw [List.replicate_succ, List.flatten_cons]
    by_cases hi : i < zs.length
    · rw [List.getElem?_append_left hi, Nat.mod_eq_of_lt hi]
    · rw [List.getElem?_append_right (by omega), flat_get zs m (i - zs.length) (by rw [Nat.add_mul] at h; omega), ← Nat.mod_eq_sub_mod (by omega)]
theorem range_zero (zs : Array Value) (m : Nat) (h : 0 < zs.size) : (Array.range (m * zs.size)).map (zs[· % zs.size]!) = ((List.replicate m zs.toList).flatten).toArray := by
  apply Array.ext'
  apply List.ext_getElem?
  intro i
  simp only [Array.toList_map, Array.toList_range, List.getElem?_map]
  by_cases hi : i < m * zs.size
  · have := flat_get zs.toList m i (by simpa using hi)
    simp only [Array.length_toList] at this
    rw [this, List.getElem?_range hi]
    have h2 : i % zs.size < zs.size := Nat.mod_lt _ h
    simp [h2]
  · rw [List.getElem?_eq_none (by simp; omega)]
    have : ((List.replicate m zs.toList).flatten).length ≤ i := by simp; omega
    rw [List.getElem?_eq_none this]; rfl
theorem range0 (f : Nat → Value) : (Array.range 0).map f = #[] := by
  apply Array.ext'
  simp only [Array.toList_map, Array.toList_range, List.range_zero, List.map_nil]
theorem zer_c {P : Program} {t : TypeId} {i : Ty} (ty : TyOk P t i) (ι : Nat → Nat) (n : Nat) : (zer i n).map (c1 ι) = zer i n := by
  unfold zer
  rw [List.map_flatten, List.map_replicate, ty.zero_plain]
theorem veqs_one : ∀ (us vs : List Value), veqs us vs = true → ∀ v ∈ vs, v.oneCell' = true ∧ plain1 v = true
  | [], [], _ => fun v h => by simp at h
  | [], _ :: _, h => by simp [veqs] at h
  | _ :: _, [], h => by simp [veqs] at h
  | u :: us, v :: vs, h => by
    simp only [veqs, Bool.and_eq_true] at h
    intro x hx
    rcases List.mem_cons.1 hx with rfl | hx
    · obtain ⟨h1, _⟩ := h
      cases u <;> cases x <;> first
        | exact ⟨rfl, rfl⟩
        | (simp [veq] at h1; done)
        | (rename_i a b; cases a <;> cases b <;> first | exact ⟨rfl, rfl⟩ | (simp [veq] at h1; done))
        | (rename_i a n c b m d; cases a <;> cases b <;> first | exact ⟨rfl, rfl⟩ | (simp [veq] at h1; done))
    · exact veqs_one us vs h.2 x hx
theorem TyOk.zero_one {P : Program} {t : TypeId} {i : Ty} (ty : TyOk P t i) : ∀ v ∈ i.zero, v.oneCell' = true ∧ plain1 v = true := by
  obtain ⟨inf, _, _, _, h4⟩ := ty.info
  unfold zeroB at h4
  cases hzz : inf.zero with
  | none => simp [hzz] at h4
  | some z' =>
    rw [hzz] at h4
    cases z' <;> simp only [Bool.and_eq_true] at h4 <;> first | exact veqs_one _ _ h4.2 | exact veqs_one _ _ h4.1.2
theorem zer_one' {P : Program} {t : TypeId} {i : Ty} (ty : TyOk P t i) (n : Nat) : ∀ v ∈ zer i n, v.oneCell' = true ∧ plain1 v = true := by
  intro v hv
  unfold zer at hv
  obtain ⟨l, hl, hv⟩ := List.mem_flatten.1 hv
  rw [(List.mem_replicate.1 hl).2] at hv
  exact ty.zero_one v hv
theorem zer_add (i : Ty) (n m : Nat) : zer i (n + m) = zer i n ++ zer i m := by
  unfold zer
  rw [← List.flatten_append, List.replicate_append_replicate]
section
variable {P : Program} {Θ : Tab} {N : Nat} {D : List Nat} {F : Mem} {K : Own} {L : Slots} {T : Mem → Slots → Own → Prop} (hT : tabOk P Θ = true)
include hT
theorem Go1.make {o : Oper} {ty el : TypeId} {l c : Operand} {d t : Nat} {ti tj : Ty} {kl kc : IntKind} {n m : Nat} {qn qm : Int} (ho : o.op = .makeSlice ty l c) (hd : o.dst = some d) (hN : d < N) (hi : Θ.lookup ty = some ti) (hk : ti.k = .slice el) (hj : Θ.lookup el = some tj)
    (hl : evO L l = some (.int kl qn)) (hc : evO L c = some (.int kc qm)) (hn : qn = n) (hm : qm = m) (hnm : n ≤ m) (hb : m * tj.bytes ≤ 281474976710656) (hm2 : m ≤ 9223372036854775807) (hz0 : tj.zero.length = tj.size) (hz1 : 0 < tj.size)
    (hL : ntL t L = true) (hK : ntK t K = true) (hD : D.contains t = false)
    (h : T F ((d, .slice (some ⟨t, 0, some 0⟩) n m) :: L) ((t, { elem := el, cs := zer tj n, room := m * tj.size, flat := true }) :: K)) : Go1 P N D F L K o T := by
  subst hn hm
  intro ι a w hF hS
  have tye := tab_ty hT hj
  obtain ⟨z, hz, hzl, _, _⟩ := tye.run_zero w
  have hzs : z.cells.size = tj.size := by rw [← hz0, ← hzl]; simp
  refine ⟨upd ι t w.heap.size, { w with heap := w.heap.push (.cells (zer tj m).toArray el) }, .slice (some ⟨w.heap.size, 0, none⟩) n m, F, _, _, .inl ?_, ?_, ?_, fun u hu => upd_ne ι (fun e => by subst e; simp at hD; exact hD hu), h⟩
  · obtain ⟨dst, op, type, pos, after, guard⟩ := o
    simp only at ho
    subst ho
    obtain ⟨dd, hdd, hkd⟩ := (tab_ty hT hi).und
    rw [hk] at hkd
    cases dd <;> try (simp [kindB] at hkd; done)
    simp only [kindB, beq_iff_eq] at hkd
    subst hkd
    obtain ⟨inf, h1, h2, h3⟩ := tye.run_info w
    have e1 : IntKind.i64.wrap (n : Int) = n := wrap_i64 (by omega) (by omega)
    have e2 : IntKind.i64.wrap (m : Int) = m := wrap_i64 (by omega) (by omega)
    have hbi : ¬ ((tj.bytes : Int) * (m : Int) > 281474976710656) := by
      have : ((m * tj.bytes : Nat) : Int) ≤ ((281474976710656 : Nat) : Int) := Int.ofNat_le.2 hb
      rw [Int.natCast_mul] at this
      rw [Int.mul_comm]; omega
    have hneg : ¬ ((m : Int) < 0) := by omega
    have hnn : ¬ ((n : Int) < 0) := by omega
    have hmn : ¬ ((n : Int) > (m : Int)) := by omega
    have hcells : ∀ zz : Array Value, zz = z.cells → (Array.range (m * tj.size)).map (zz[· % zz.size]!) = (zer tj m).toArray := by
      intro zz e
      subst e
      have := range_zero z.cells m (by omega)
      rw [hzs, hzl] at this
      rw [hzs]
      exact this
    have hp : (2 : Int) ^ 48 = 281474976710656 := by decide
    simp only [execOp, hF.ev hl, hF.ev hc, cV_int, Instr.makeSlice, Sem.run_bind, run_underlying hdd, Result.andThen_ok, asInt, asIntOf, Sem.run_pure, h1, h3, e1, e2, hp, hneg, hnn, hmn, hbi, decide_false, Bool.or_false, Bool.or_self, Bool.false_eq_true, if_false, run_askRoom, tye.run_size, Int.toNat_natCast]
    by_cases hm0 : m * tj.size = 0
    · have : m = 0 := by
        rcases Nat.mul_eq_zero.1 hm0 with h | h
        · exact h
        · omega
      subst this
      simp [zer, newRow, range0]
    · simp only [hm0, if_false, Sem.run_bind, hz, Result.andThen_ok, Sem.run_pure, newRow, run_newObj, hcells _ rfl]
  · have := (hF.nt (fun u hu => upd_ne ι (t := t) (b := w.heap.size) hu) hL).put hN (.slice (some ⟨t, 0, some 0⟩) n m)
    rw [hd]
    simpa [upd_eq] using this
  · refine hS.new hK rfl rfl rfl rfl ⟨zer tj (m - n), (0, 0), ?_, ?_, .inl rfl, ?_⟩ (fun _ v hv => (zer_one' tye n v hv).2)
    · rw [Array.getElem?_push, if_pos rfl]
      simp only [Row.c, zer_c tye]
      rw [← zer_add]
      congr 4
      omega
    · simp only [Row.c, List.length_map, zer_length, hz0]
      rw [← Nat.add_mul]
      congr 1
      omega
    · intro v hv
      simp only [Row.c, zer_c tye] at hv
      rw [← zer_add] at hv
      exact (zer_one' tye _ v hv).1
omit hT in
theorem fillL_length {place : Nat → Option (Nat × Nat)} : ∀ {ps : List (Nat × List Value)} {cells cs : List Value}, fillL place cells ps = some cs → cs.length = cells.length
  | [], cells, cs, h => by simp only [fillL, Option.some.injEq] at h; rw [h]
  | (i, vs) :: ps, cells, cs, h => by
    simp only [fillL] at h
    split at h <;> try (simp at h; done)
    split at h <;> try (simp at h; done)
    rw [fillL_length h, putL_length]
omit hT in
theorem fillL_mem {place : Nat → Option (Nat × Nat)} {p : Value → Prop} : ∀ {ps : List (Nat × List Value)} {cells cs : List Value}, (∀ v ∈ cells, p v) → (∀ q ∈ ps, ∀ v ∈ q.2, p v) → fillL place cells ps = some cs → ∀ v ∈ cs, p v
  | [], cells, cs, h1, _, h => by simp only [fillL, Option.some.injEq] at h; subst h; exact h1
  | (i, vs) :: ps, cells, cs, h1, h2, h => by
    simp only [fillL] at h
    split at h <;> try (simp at h; done)
    split at h <;> try (simp at h; done)
    refine fillL_mem (fun v hv => ?_) (fun q hq => h2 q (List.mem_cons_of_mem _ hq)) h
    rcases putL_mem _ _ _ _ hv with hv | hv
    · exact h1 v hv
    · exact h2 _ List.mem_cons_self v hv
theorem Go1.slit {o : Oper} {ty el : TypeId} {parts : Array (Nat × Operand)} {d t n : Nat} {ti tj : Ty} {ps : List (Nat × List Value)} {cs : List Value} (ho : o.op = .buildSlice ty n parts) (hd : o.dst = some d) (hN : d < N) (hi : Θ.lookup ty = some ti) (hk : ti.k = .slice el) (hj : Θ.lookup el = some tj)
    (hp : partsL (evO L) parts.toList = some ps) (h1 : ps.all (fun q => q.2.all (·.oneCell')) = true) (hf : fillL (fun i => some (i * tj.size, tj.size)) (zer tj n) ps = some cs) (hs : n * tj.size ≤ 16777216) (hz0 : tj.zero.length = tj.size) (hz1 : 0 < tj.size)
    (hL : ntL t L = true) (hK : ntK t K = true) (hD : D.contains t = false)
    (h : T F ((d, .slice (some ⟨t, 0, some 0⟩) n n) :: L) ((t, { elem := el, cs := cs, room := n * tj.size, flat := false }) :: K)) : Go1 P N D F L K o T := by
  intro ι a w hF hS
  have tye := tab_ty hT hj
  obtain ⟨z, hz, hzl, _, _⟩ := tye.run_zero w
  have hzs : z.cells.size = tj.size := by rw [← hz0, ← hzl]; simp
  have hone : ∀ v ∈ cs, v.oneCell' = true := fillL_mem (fun v hv => (zer_one' tye n v hv).1) (fun q hq v hv => List.all_eq_true.1 (List.all_eq_true.1 h1 q hq) v hv) hf
  have hlen := fillL_length hf
  rw [zer_length, hz0] at hlen
  -- the parts speak of no new tag
  have hpnt : ∀ q ∈ ps, q.2.all (nt1 t) = true := by
    have aux : ∀ (xs : List (Nat × Operand)) (ps : List (Nat × List Value)), partsL (evO L) xs = some ps → ∀ q ∈ ps, q.2.all (nt1 t) = true := by
      intro xs
      induction xs with
      | nil => intro ps hps q hq; simp only [partsL, Option.some.injEq] at hps; subst hps; simp at hq
      | cons x xs ih =>
        obtain ⟨k, y⟩ := x
        intro ps hps q hq
        simp only [partsL] at hps
        split at hps <;> try (simp at hps; done)
        rename_i v hv hnt
        split at hps <;> try (simp at hps; done)
        rename_i l hl
        simp only [Option.some.injEq] at hps
        subst hps
        rcases List.mem_cons.1 hq with rfl | hq
        · exact nt_cells (Fr.nt_ev hL hnt) (fun vs e => by subst e; exact hv vs rfl)
        · exact ih l hl q hq
    exact aux _ _ hp
  refine ⟨upd ι t w.heap.size, { w with heap := w.heap.push (.cells (cs.map (c1 ι)).toArray el) }, .slice (some ⟨w.heap.size, 0, none⟩) n n, F, _, _, .inl ?_, ?_, ?_, fun u hu => upd_ne ι (fun e => by subst e; simp at hD; exact hD hu), h⟩
  · obtain ⟨dst, op, type, pos, after, guard⟩ := o
    simp only at ho
    subst ho
    obtain ⟨dd, hdd, hkd⟩ := (tab_ty hT hi).und
    rw [hk] at hkd
    cases dd <;> try (simp [kindB] at hkd; done)
    simp only [kindB, beq_iff_eq] at hkd
    subst hkd
    obtain ⟨hl, hq⟩ := partsL_run (ρ := a.eval) (ι := ι) (fun x u hu => hF.ev hu) hp
    have hfill := fill_run (ι := ι) (fun k p hp => hp) (by simpa using hl) hq hf
    rw [zer_c tye] at hfill
    have hp24 : ¬ (n * tj.size > 2 ^ 24) := by have : (2 : Nat) ^ 24 = 16777216 := by decide
                                               omega
    have e1 : (parts.map fun (i, x) => (i, a.eval x)).toList = parts.toList.map fun (i, x) => (i, a.eval x) := by simp
    have hcells : ∀ zz : Array Value, zz = z.cells → (Array.range (n * tj.size)).map (zz[· % zz.size]!) = (zer tj n).toArray := by
      intro zz e
      subst e
      have := range_zero z.cells n (by omega)
      rw [hzs, hzl] at this
      rw [hzs]
      exact this
    simp only [execOp, Instr.buildSlice, Sem.run_bind, run_underlying hdd, Result.andThen_ok, tye.run_size, hp24, if_false, Sem.run_ite, Sem.run_pure]
    by_cases hm0 : n * tj.size = 0
    · have : n = 0 := by
        rcases Nat.mul_eq_zero.1 hm0 with h | h
        · exact h
        · omega
      subst this
      have e0 : (Array.range (0 * tj.size)).map (fun x => (#[] : Array Value)[x % (#[] : Array Value).size]!) = (zer tj 0).toArray := by
        rw [Nat.zero_mul, range0]; simp [zer]
      simp only [hm0, if_true, Result.andThen_ok, Sem.run_pure]
      have e0' : (Array.range 0).map (fun x => (#[] : Array Value)[x % (#[] : Array Value).size]!) = (zer tj 0).toArray := by
        simpa using e0
      rw [e0', e1, hfill]
      simp [newRow]
    · simp only [hm0, if_false, hz, Result.andThen_ok, hcells _ rfl]
      rw [e1, hfill]
      simp [newRow]
  · have := (hF.nt (fun u hu => upd_ne ι (t := t) (b := w.heap.size) hu) hL).put hN (.slice (some ⟨t, 0, some 0⟩) n n)
    rw [hd]
    simpa [upd_eq] using this
  · have hcn : cs.all (nt1 t) = true := by
      rw [List.all_eq_true]
      refine fillL_mem (fun v hv => ?_) (fun q hq v hv => List.all_eq_true.1 (hpnt q hq) v hv) hf
      exact nt1_plain t (zer_one' tye n v hv).2
    have hz' : cs.map (c1 (upd ι t w.heap.size)) = cs.map (c1 ι) := List.map_congr_left fun u hu => c1_nt (fun u hu => upd_ne ι hu) (List.all_eq_true.1 hcn u hu)
    refine hS.new hK rfl rfl rfl rfl ?_ (fun h => by cases h)
    refine holds_new _ ⟨rfl, by simp only [Row.c, hz'], by simp [Row.c, hlen], rfl⟩ rfl (fun u hu => by obtain ⟨u', hu', rfl⟩ := List.mem_map.1 hu; rw [c1_oneCell]; exact hone _ hu')
end
end Go.Proofs.Ytnkddjdmpnghmaa.Am
namespace Go.Proofs.Ytnkddjdmpnghmaa.Am
set_option linter.unusedSimpArgs false
set_option linter.unusedVariables false
open Go Go.RowKit
/-- what is appended: m elements, of the cells news -/
structure App (P : Program) (F : Mem) (K : Own) (sz : Nat) (xv : Value) (m : Nat) (news : List Value) : Prop where
  len : news.length = m * sz
  one : ∀ v ∈ news, v.oneCell' = true
  lenOf : ∀ ι w, (Builtin.lenOf (cV ι xv)).run P w = .ok m w
  cells : ∀ ι w, St F ι K w → (Builtin.firstCells sz m (cV ι xv)).run P w = .ok (news.map (c1 ι)).toArray w
section
variable {P : Program} {F : Mem} {K : Own}
theorem App.nil (c : Nat) (sz : Nat) : App P F K sz (.slice none 0 c) 0 [] :=
  ⟨by simp, fun v h => by simp at h, fun ι w => by simp [Builtin.lenOf], fun ι w _ => by simp [Builtin.firstCells]⟩
/-- of a row, read -/
theorem App.slice {a : Addr} {m c sz : Nat} {news : List Value} (hv : rdN F K a (m * sz) = some news) (h1 : ∀ v ∈ news, v.oneCell' = true) (hl : news.length = m * sz) : App P F K sz (.slice (some a) m c) m news := by
  refine ⟨hl, h1, fun ι w => by simp [Builtin.lenOf], fun ι w hS => ?_⟩
  obtain ⟨hl, hc⟩ := hS.rdN hv
  have := run_loadCells_list (P := P) (w := w) (cA ι a) (news.map (c1 ι)) hc
  rw [List.length_map, hl] at this
  simp only [cV_slice, Builtin.firstCells, this]
def bytesV (s : ByteArray) : List Value := s.data.toList.map fun b => .int .u8 b.toNat
theorem bytesV_plain (s : ByteArray) (ι : Nat → Nat) : (bytesV s).map (c1 ι) = bytesV s := by
  unfold bytesV
  rw [List.map_map]
  exact List.map_congr_left fun b _ => rfl
theorem App.string (s : ByteArray) : App P F K 1 (.string s) s.size (bytesV s) := by
  refine ⟨by simp [bytesV], fun v hv => ?_, fun ι w => by simp [Builtin.lenOf], fun ι w _ => ?_⟩
  · obtain ⟨b, _, rfl⟩ := List.mem_map.1 hv; rfl
  · have e : s.extract 0 s.size = s := by
      apply ByteArray.ext; simp
    simp only [cV_string, Builtin.firstCells, bytesV_plain, e, Sem.run_pure]
    congr 1
    apply Array.ext'
    simp [bytesV]
end
section
variable {P : Program} {Θ : Tab} {N : Nat} {D : List Nat} {F : Mem} {K : Own} {L : Slots} {T : Mem → Slots → Own → Prop} (hT : tabOk P Θ = true)
def slB : TyK → Bool
  | .slice _ | .string => true
  | _ => false
/-- a block gets a new tag: one that is new, or one of the call's own that is known by no other tag any more -/
theorem St.re {ι : Nat → Nat} {K0 : Own} {w w' : World} {t g : Nat} {r : Row} (h : St F ι K w) (hsub : K0.Sublist K) (hK : ntK t K = true) (hB : F.w0.heap.size ≤ g) (hg : g ∉ (K0.map fun x => ι x.1) ++ F.ch.map Prod.fst)
    (hn : w.heap.size ≤ w'.heap.size) (hw : ∀ k, k < w.heap.size → k ≠ g → w'.heap[k]? = w.heap[k]?) (hos : w'.os = w.os) (htp : w'.tape = w.tape) (hou : w'.output = w.output) (hr : Holds w' g (r.c (upd ι t g))) (hflat : r.flat = true → ∀ v ∈ r.cs, plain1 v = true) :
    St F (upd ι t g) ((t, r) :: K0) w' := by
  have hmap : (K0.map fun x => upd ι t g x.1) = K0.map fun x => ι x.1 := List.map_congr_left fun x hx => upd_ne ι (h.rowc (b := 0) hK (hsub.subset hx)).1
  have hlt := h.lt_own
  refine ⟨⟨hos.trans h.below.os, htp.trans h.below.tape, hou.trans h.below.output, Nat.le_trans h.below.size hn, fun k hk => ?_⟩, ?_, fun x hx => ?_, fun x hx => ?_⟩
  · rw [hw k (Nat.lt_of_lt_of_le hk h.below.size) (by omega)]; exact h.below.block k hk
  · simp only [List.map_cons, List.cons_append, hmap, upd_eq, List.nodup_cons]
    exact ⟨hg, h.nodup.sublist ((hsub.map _).append (List.Sublist.refl _))⟩
  · rcases List.mem_cons.1 hx with rfl | hx
    · simp only [upd_eq]
      exact ⟨hB, hr, hflat⟩
    · obtain ⟨h1, h2⟩ := h.rowc (b := g) hK (hsub.subset hx)
      obtain ⟨h3, h4, h5⟩ := h.own x (hsub.subset hx)
      rw [upd_ne ι h1, h2]
      refine ⟨h3, h4.congr (hw _ h4.lt fun e => hg ?_), h5⟩
      exact List.mem_append_left _ (List.mem_map.2 ⟨x, hx, e⟩)
  · obtain ⟨h3, h4⟩ := h.ext x hx
    refine ⟨h3, h4.congr (hw _ h4.lt fun e => hg ?_)⟩
    exact List.mem_append_right _ (List.mem_map.2 ⟨x, hx, e⟩)
def delK (t : Nat) (K : Own) : Own := K.filter fun x => x.1 != t
theorem tags_nodup {ι : Nat → Nat} {w : World} (h : St F ι K w) : (K.map Prod.fst).Nodup := by
  have hnd := (List.nodup_append.1 h.nodup).1
  rw [List.nodup_iff_pairwise_ne] at hnd ⊢
  rw [List.pairwise_map] at hnd ⊢
  exact hnd.imp fun h e => h (by rw [e])
theorem nodup_inj {α : Type} {f : α → Nat} : ∀ {l : List α}, (l.map f).Nodup → ∀ x ∈ l, ∀ y ∈ l, f x = f y → x = y
  | [], _, x, hx, _, _, _ => by simp at hx
  | z :: l, h, x, hx, y, hy, e => by
    simp only [List.map_cons, List.nodup_cons] at h
    rcases List.mem_cons.1 hx with rfl | hx' <;> rcases List.mem_cons.1 hy with rfl | hy'
    · rfl
    · exact absurd (List.mem_map.2 ⟨y, hy', e.symm⟩) h.1
    · exact absurd (List.mem_map.2 ⟨x, hx', e⟩) h.1
    · exact nodup_inj h.2 x hx' y hy' e
theorem own_inj {ι : Nat → Nat} {w : World} (h : St F ι K w) {t : Nat} {r : Row} (hr : K.lookup t = some r) : ι t ∉ ((delK t K).map fun x => ι x.1) ++ F.ch.map Prod.fst := by
  intro hm
  have hnd := List.nodup_append.1 h.nodup
  rcases List.mem_append.1 hm with hm | hm
  · obtain ⟨x, hx, e⟩ := List.mem_map.1 hm
    have hx2 := List.mem_filter.1 hx
    have hne : x.1 ≠ t := by simpa using hx2.2
    have := nodup_inj (f := fun x : Nat × Row => ι x.1) hnd.1 x hx2.1 _ (lookup_mem hr) e
    exact hne (by rw [this])
  · exact hnd.2.2 (ι t) (List.mem_map.2 ⟨_, lookup_mem hr, rfl⟩) (ι t) hm rfl
theorem run_append_in {t t' ty e : TypeId} {d' : TypeDesc} {sz n c m : Nat} {a : Addr} {xv : Value} {cells : Array Value} {w w' : World} (hU : P.underlying t = some (.slice e)) (hU' : P.underlying t' = some d') (hd' : ∀ k, d' ≠ .int k)
    (hsz : (sizeOf e).run P w = .ok sz w) (hl : (Builtin.lenOf xv).run P w = .ok m w) (hc : (Builtin.firstCells sz m xv).run P w = .ok cells w) (hle : n + m ≤ c) (hst : (storeCells (a.add (n * sz)) cells.toList).run P w = .ok () w') :
    (Builtin.append_ #[t, t'] ty #[.slice (some a) n c, xv]).run P w = .ok (.slice (some a) (n + m) c) w' := by
  have hint : (match d' with | .int _ => true | _ => false) = false := by cases d' <;> first | rfl | exact absurd rfl (hd' _)
  simp [Builtin.append_, run_underlying hU, run_underlying hU', hsz, hint, hl, hc, hle, hst]
theorem run_append_new {t t' ty e : TypeId} {d' : TypeDesc} {sz n c m : Nat} {base : Option Addr} {xv z : Value} {old cells : Array Value} {inf : TypeInfo} {w : World} (hU : P.underlying t = some (.slice e)) (hU' : P.underlying t' = some d') (hd' : ∀ k, d' ≠ .int k)
    (hsz : ∀ w, (sizeOf e).run P w = .ok sz w) (hinf : ∀ w, (typeInfo e).run P w = .ok inf w) (hz : ∀ w, (zeroValue e).run P w = .ok z w) (hl : (Builtin.lenOf xv).run P w = .ok m w) (hlt : c < n + m) (h63 : n + m ≤ 9223372036854775807) (hby : (n + m) * inf.bytes ≤ 140737488355328)
    (ho : (Builtin.firstCells sz n (.slice base n c)).run P w.drew = .ok old w.drew) (hc : (Builtin.firstCells sz m xv).run P w.drew = .ok cells w.drew) :
    ∃ cap, n + m ≤ cap ∧ cap ≤ 9223372036854775807 ∧ (Builtin.append_ #[t, t'] ty #[.slice base n c, xv]).run P w = .ok (.slice (some ⟨w.heap.size, 0, none⟩) (n + m) cap) (w.drew.alloc (.cells (old ++ cells ++ Builtin.zeroCells z.cells (cap - (n + m))) e)) := by
  have hint : (match d' with | .int _ => true | _ => false) = false := by cases d' <;> first | rfl | exact absurd rfl (hd' _)
  refine ⟨grownCap w (n + m) c e, grownCap_ge w _ _ _, ?_, ?_⟩
  · have := grownCap_le_maxLen w (n + m) c e (by simp only [maxLen]; omega)
    simpa [maxLen] using this
  · have hng : ¬ (n + m ≤ c) := by omega
    have hmax : ¬ (((n + m : Nat) : Int) > IntKind.i64.max) := by
      have : IntKind.i64.max = 9223372036854775807 := by decide
      rw [this]; omega
    have hfit : ¬ (Builtin.nextslicecap (n + m) c * inf.bytes > 2 ^ 48) := by
      have h1 := growslice_fits (bytes := inf.bytes) hlt hby
      have h2 : (2 : Nat) ^ 48 = 281474976710656 := by decide
      rw [h2]; omega
    have hmax' : ¬ (IntKind.i64.max < (n : Int) + (m : Int)) := by
      intro h; apply hmax; push_cast; exact h
    simp [Builtin.append_, run_underlying hU, run_underlying hU', hsz, hint, hl, hng, hinf, hmax', hfit, Question.forced, grownCap, ho, hc, hz, newRow]
    intro h; exact absurd h (by omega)
end
end Go.Proofs.Ytnkddjdmpnghmaa.Am
namespace Go.Proofs.Ytnkddjdmpnghmaa.Am
set_option linter.unusedSimpArgs false
set_option linter.unusedVariables false
open Go Go.RowKit
section
variable {P : Program} {Θ : Tab} {N : Nat} {D : List Nat} {F : Mem} {K : Own} {L : Slots} {T : Mem → Slots → Own → Prop} (hT : tabOk P Θ = true)
include hT
omit hT in
theorem zeroCells_zer {tj : Ty} (hz0 : tj.zero.length = tj.size) (hz1 : 0 < tj.size) {z : Value} (hz : z.cells.toList = tj.zero) (k : Nat) : Builtin.zeroCells z.cells k = (zer tj k).toArray := by
  have hs : z.cells.size = tj.size := by rw [← hz0, ← hz]; simp
  have := range_zero z.cells k (by omega)
  unfold Builtin.zeroCells zer
  rw [this, hz]
/-- append: the result has a tag of its own; the row it was made of is known no more -/
theorem Go1.append {o : Oper} {ty ty' el : TypeId} {s x : Operand} {d t n c m : Nat} {ti ti' tj : Ty} {sv xv : Value} {olds news : List Value} {K0 : Own} {fz fl : Bool} (ho : o.op = .call ⟨.builtin .append, #[s, x], #[ty, ty']⟩) (hd : o.dst = some d) (hN : d < N)
    (hi : Θ.lookup ty = some ti) (hk : ti.k = .slice el) (hi' : Θ.lookup ty' = some ti') (hk' : slB ti'.k = true) (hj : Θ.lookup el = some tj) (hz0 : tj.zero.length = tj.size) (hz1 : 0 < tj.size)
    (hs : evO L s = some sv) (hx : evO L x = some xv) (happ : App P F K tj.size xv m news) (hm : 0 < m)
    (hsrc : (sv = .slice none 0 0 ∧ n = 0 ∧ c = 0 ∧ olds = [] ∧ K0 = K) ∨ ∃ u r, sv = .slice (some ⟨u, 0, some 0⟩) n c ∧ K.lookup u = some r ∧ r.cs = olds ∧ r.room = c * tj.size ∧ r.elem = el ∧ n ≤ c ∧ c ≤ 9223372036854775807 ∧ K0 = delK u K ∧ (r.fz = true → fz = true) ∧ (fl = true → r.flat = true))
    (hol : olds.length = n * tj.size) (hflat : fl = true → news.all plain1 = true) (h63 : n + m ≤ 9223372036854775807) (hby : (n + m) * tj.bytes ≤ 140737488355328)
    (hL : ntL t L = true) (hK : ntK t K = true) (hnn : news.all (nt1 t) = true) (hD : D.contains t = false)
    (h : ∀ cap, n + m ≤ cap → cap ≤ 9223372036854775807 → T F ((d, .slice (some ⟨t, 0, some 0⟩) (n + m) cap) :: L) ((t, { elem := el, cs := olds ++ news, room := cap * tj.size, fz := fz, flat := fl }) :: K0)) : Go1 P N D F L K o T := by
  intro ι a w hF hS
  have tye := tab_ty hT hj
  obtain ⟨z, hzr, hzl, _, _⟩ := tye.run_zero w
  obtain ⟨dd, hdd, hkd⟩ := (tab_ty hT hi).und
  rw [hk] at hkd
  cases dd <;> try (simp [kindB] at hkd; done)
  simp only [kindB, beq_iff_eq] at hkd
  subst hkd
  rename_i el
  obtain ⟨d', hdd', hkd'⟩ := (tab_ty hT hi').und
  have hd' : ∀ k, d' ≠ .int k := by
    intro k e
    subst e
    cases hq : ti'.k <;> rw [hq] at hk' hkd' <;> first | (simp [slB] at hk'; done) | simp [kindB] at hkd'
  have hzu : ∀ w : World, (zeroValue el).run P w = .ok z w := by
    intro w2
    obtain ⟨inf, h1, _, _, _⟩ := tye.info
    have : inf.zero = some z := by
      have := hzr
      simp only [zeroValue, typeInfo, Sem.run_bind, run_program, Result.andThen_ok, h1, Sem.run_pure] at this
      cases hq : inf.zero <;> simp [hq] at this
      rw [this]
    simp [zeroValue, typeInfo, h1, this]
  obtain ⟨inf, hinf0, hinfs, hinfb, _⟩ := tye.info
  have hinf : ∀ w : World, (typeInfo el).run P w = .ok inf w := fun w => by simp [typeInfo, hinf0]
  have hlen := happ.lenOf ι w
  -- the call's operation, reduced
  have hop : ∀ (r : Value) (w' : World), (Builtin.append_ #[ty, ty'] o.type #[cV ι sv, cV ι xv]).run P w = .ok r w' → (execOp a.eval o).run P w = .ok (.value r) w' := by
    intro r w' hrun
    obtain ⟨dst, op, type, pos, after, guard⟩ := o
    simp only at ho hrun
    subst ho
    simp only [execOp, resolve, Sem.run_bind, Sem.run_pure, Result.andThen_ok, invoke, builtin]
    simp only [List.map_toArray, List.map_cons, List.map_nil, hF.ev hs, hF.ev hx, hrun, Result.andThen_ok, Sem.run_pure]
  have hplain : fl = true → (∀ v ∈ olds, plain1 v = true) → ∀ v ∈ olds ++ news, plain1 v = true := by
    intro hf ho v hv
    rcases List.mem_append.1 hv with hv | hv
    · exact ho v hv
    · exact List.all_eq_true.1 (hflat hf) v hv
  -- a new block
  have newcase : (c < n + m) → K0.Sublist K → (∀ v ∈ olds, v.oneCell' = true) → (fl = true → ∀ v ∈ olds, plain1 v = true) → (olds.all (nt1 t) = true) → (∀ w2, St F ι K w2 → (Builtin.firstCells tj.size n (cV ι sv)).run P w2 = .ok (olds.map (c1 ι)).toArray w2) → (∃ base, cV ι sv = .slice base n c) →
      ∃ (ι' : Nat → Nat) (w' : World) (v : Value) (F' : Mem) (L' : Slots) (K' : Own), ((execOp a.eval o).run P w = .ok (.value v) w' ∨ ((execOp a.eval o).run P w = .ok .skip w' ∧ v = undef)) ∧ Fr N ι' L' (a.put o.dst v) ∧ St F' ι' K' w' ∧ (∀ t ∈ D, ι' t = ι t) ∧ T F' L' K' := by
    intro hlt hsub hone hpl hnto hfirst hbase
    obtain ⟨base, hbase⟩ := hbase
    have hSd : St F ι K w.drew := hS.same rfl rfl rfl rfl
    have hfo := hfirst _ hSd
    rw [hbase] at hfo
    obtain ⟨cap, hc1, hc2, hrun⟩ := run_append_new (ty := o.type) (base := base) (xv := cV ι xv) hdd hdd' hd' (fun w => tye.run_size w) hinf hzu hlen hlt h63 (by rw [hinfb]; exact hby) hfo (happ.cells ι _ hSd)
    rw [← hbase] at hrun
    refine ⟨upd ι t w.heap.size, _, _, F, _, _, .inl (hop _ _ hrun), ?_, ?_, fun u hu => upd_ne ι (fun e => by subst e; simp at hD; exact hD hu), h cap hc1 hc2⟩
    · have := (hF.nt (fun u hu => upd_ne ι (t := t) (b := w.heap.size) hu) hL).put hN (.slice (some ⟨t, 0, some 0⟩) (n + m) cap)
      rw [hd]
      simpa [upd_eq] using this
    · have hnid : w.heap.size ∉ (K0.map fun x => ι x.1) ++ F.ch.map Prod.fst := by
        intro hm
        have : w.heap.size ∈ (K.map fun x => ι x.1) ++ F.ch.map Prod.fst := by
          rcases List.mem_append.1 hm with hm | hm
          · exact List.mem_append_left _ ((hsub.map _).subset hm)
          · exact List.mem_append_right _ hm
        have := hS.lt_own _ this
        omega
      have hcc : (olds ++ news).map (c1 (upd ι t w.heap.size)) = olds.map (c1 ι) ++ news.map (c1 ι) := by
        rw [List.map_append]
        congr 1
        · exact List.map_congr_left fun u hu => c1_nt (fun u hu => upd_ne ι hu) (List.all_eq_true.1 hnto u hu)
        · exact List.map_congr_left fun u hu => c1_nt (fun u hu => upd_ne ι hu) (List.all_eq_true.1 hnn u hu)
      refine hS.re hsub hK hS.below.size hnid (by simp) (fun k hk _ => Below.heap_alloc _ _ _ (by simpa using hk)) rfl rfl rfl ⟨zer tj (cap - (n + m)), (0, 0), ?_, ?_, .inl rfl, ?_⟩ (fun hf => hplain hf (hpl hf))
      · show (w.drew.heap.push _)[w.heap.size]? = _
        rw [Array.getElem?_push, if_pos (by simp)]
        simp only [Row.c, hcc, zeroCells_zer hz0 hz1 hzl]
        simp
      · simp only [Row.c, hcc, List.length_append, List.length_map, zer_length, hol, happ.len, hz0]
        rw [← Nat.add_mul, ← Nat.add_mul]
        congr 1
        omega
      · intro v hv
        simp only [Row.c, hcc] at hv
        rcases List.mem_append.1 hv with hv | hv
        · rcases List.mem_append.1 hv with hv | hv
          · obtain ⟨v', hv', rfl⟩ := List.mem_map.1 hv; rw [c1_oneCell]; exact hone _ hv'
          · obtain ⟨v', hv', rfl⟩ := List.mem_map.1 hv; rw [c1_oneCell]; exact happ.one _ hv'
        · exact (zer_one' tye _ v hv).1
  rcases hsrc with ⟨rfl, rfl, rfl, rfl, rfl⟩ | ⟨u, r, rfl, hr, rfl, hroom, hel, hnc, hcm, rfl, hfz, hfl⟩
  · exact newcase (by omega) (List.Sublist.refl _) (fun v hv => by simp at hv) (fun _ v hv => by simp at hv) (by simp) (fun w2 _ => by simp [Builtin.firstCells]) ⟨none, rfl⟩
  · obtain ⟨hB, hh, hflr⟩ := hS.own _ (lookup_mem hr)
    have hh' := hh
    obtain ⟨junk, fr, hb, hl, hf, hone⟩ := hh
    simp only [Row.c] at hb hl hone hf
    by_cases hle : n + m ≤ c
    · -- there is room
      have hjunk : (news.map (c1 ι)).length ≤ junk.length := by
        have h3 := happ.len
        simp only [List.length_map] at hl ⊢
        have h4 : (n + m) * tj.size ≤ c * tj.size := Nat.mul_le_mul_right _ hle
        rw [Nat.add_mul] at h4
        omega
      obtain ⟨w', r1, r2, r3, r4, r5, r6, r7⟩ := run_storeCells_row (P := P) (ι u) (n * tj.size) r.elem fr (news.map (c1 ι)) 0 (r.cs.map (c1 ι) ++ junk) w hb (by simp only [List.length_append, List.length_map] at hl hjunk ⊢; omega) (by
        rcases hf with hf | hf
        · exact .inl hf
        · right; have := hf.2; simp only [List.length_append, List.length_map] at hl ⊢; omega) (fun v hv => by obtain ⟨v', hv', rfl⟩ := List.mem_map.1 hv; rw [c1_oneCell]; exact happ.one _ hv')
      have hrun := run_append_in (ty := o.type) (a := ⟨ι u, 0, none⟩) (xv := cV ι xv) hdd hdd' hd' (tye.run_size w) hlen (happ.cells ι _ hS) hle (w' := w') (by rw [addA_none, Nat.zero_add]; exact r1)
      refine ⟨upd ι t (ι u), w', _, F, _, _, .inl (hop _ _ hrun), ?_, ?_, fun v hv => upd_ne ι (fun e => by subst e; simp at hD; exact hD hv), h c hle hcm⟩
      · have := (hF.nt (fun v hv => upd_ne ι (t := t) (b := ι u) hv) hL).put hN (.slice (some ⟨t, 0, some 0⟩) (n + m) c)
        rw [hd]
        simpa [upd_eq] using this
      · have hcc : (r.cs ++ news).map (c1 (upd ι t (ι u))) = r.cs.map (c1 ι) ++ news.map (c1 ι) := by
          rw [List.map_append]
          congr 1
          · have := (hS.rowc (b := ι u) hK (lookup_mem hr)).2
            simp only [Row.c, Row.mk.injEq] at this
            exact this.2.1
          · exact List.map_congr_left fun v hv => c1_nt (fun v hv => upd_ne ι hv) (List.all_eq_true.1 hnn v hv)
        refine hS.re List.filter_sublist hK hB (own_inj hS hr) (by omega) (fun k _ hk => r3 k hk) r5 r6 r7 ⟨junk.drop (news.map (c1 ι)).length, fr, ?_, ?_, ?_, ?_⟩ (fun hf => hplain hf (hflr (hfl hf)))
        · rw [r2]
          simp only [Row.c, hcc, Nat.add_zero]
          have := putL_end (news.map (c1 ι)) (r.cs.map (c1 ι)) junk hjunk
          rw [List.length_map, hol] at this
          rw [this, hel]
        · simp only [Row.c, hcc, List.length_append, List.length_drop, List.length_map] at hl hjunk ⊢
          omega
        · rcases hf with hf | hf
          · exact .inl hf
          · exact .inr ⟨hfz hf.1, by rw [← hroom]; exact hf.2⟩
        · intro v hv
          simp only [Row.c, hcc] at hv
          rcases List.mem_append.1 hv with hv | hv
          · rcases List.mem_append.1 hv with hv | hv
            · exact hone v (List.mem_append_left _ hv)
            · obtain ⟨v', hv', rfl⟩ := List.mem_map.1 hv; rw [c1_oneCell]; exact happ.one _ hv'
          · exact hone v (List.mem_append_right _ (List.mem_of_mem_drop hv))
    · -- there is none
      refine newcase (by omega) List.filter_sublist (fun v hv => ?_) (fun hf => hflr (hfl hf)) ?_ (fun w2 hS2 => ?_) ⟨_, rfl⟩
      · have := hone (c1 ι v) (List.mem_append_left _ (List.mem_map.2 ⟨v, hv, rfl⟩))
        rwa [c1_oneCell] at this
      · have := List.all_eq_true.1 hK _ (lookup_mem hr)
        simp only [Bool.and_eq_true, Bool.or_eq_true] at this
        rcases this.2 with hq | hq
        · rw [List.all_eq_true]
          intro v hv
          exact nt1_plain t (hflr hq v hv)
        · exact hq
      · have hrd : rdN F K ⟨u, 0, some 0⟩ (n * tj.size) = some r.cs := by
          simp only [rdN, hr, Nat.zero_add, hol, Nat.le_refl, if_true, List.drop_zero]
          rw [← hol, List.take_length]
        obtain ⟨h3, h4⟩ := hS2.rdN hrd
        have := run_loadCells_list (P := P) (w := w2) (cA ι ⟨u, 0, some 0⟩) (r.cs.map (c1 ι)) h4
        rw [List.length_map, h3] at this
        simp only [cV_slice, Builtin.firstCells, this]
end
end Go.Proofs.Ytnkddjdmpnghmaa.Am
namespace Go.Proofs.Ytnkddjdmpnghmaa.Am
set_option linter.unusedSimpArgs false
set_option linter.unusedVariables false
open Go Go.RowKit
section
variable {P : Program} {Θ : Tab} {N : Nat} {D : List Nat} {F : Mem} {K : Own} {L : Slots} {T : Mem → Slots → Own → Prop} (hT : tabOk P Θ = true)
include hT
/-- a text's bytes, in a row of their own -/
theorem Go1.bytes {o : Oper} {sty ty el : TypeId} {x : Operand} {d t : Nat} {s : ByteArray} {ts ti tj : Ty} (ho : o.op = .convert sty ty x) (hd : o.dst = some d) (hN : d < N) (hss : Θ.lookup sty = some ts) (hks : ts.k = .string) (hi : Θ.lookup ty = some ti) (hk : ti.k = .slice el) (hj : Θ.lookup el = some tj) (hkj : tj.k = .int .u8)
    (hx : evO L x = some (.string s)) (hs : s.size ≤ 9223372036854775807) (hL : ntL t L = true) (hK : ntK t K = true) (hD : D.contains t = false)
    (h : ∀ cap, s.size ≤ cap → cap ≤ 9223372036854775807 → T F ((d, .slice (some ⟨t, 0, some 0⟩) s.size cap) :: L) ((t, { elem := el, cs := bytesV s, room := cap, fz := true, flat := true }) :: K)) : Go1 P N D F L K o T := by
  intro ι a w hF hS
  obtain ⟨dd, hdd, hkd⟩ := (tab_ty hT hi).und
  rw [hk] at hkd
  cases dd <;> try (simp [kindB] at hkd; done)
  simp only [kindB, beq_iff_eq] at hkd
  subst hkd
  rename_i el
  obtain ⟨ds, hds, hks'⟩ := (tab_ty hT hss).und
  rw [hks] at hks'
  cases ds <;> try (simp [kindB] at hks'; done)
  obtain ⟨de, hde, hke⟩ := (tab_ty hT hj).und
  rw [hkj] at hke
  cases de <;> try (simp [kindB] at hke; done)
  simp only [kindB, beq_iff_eq] at hke
  subst hke
  have hc1 := grownCap_ge w s.size 0 el
  have hc2 : grownCap w s.size 0 el ≤ 9223372036854775807 := by
    have := grownCap_le_maxLen w s.size 0 el (by simp only [maxLen]; omega)
    simpa [maxLen] using this
  generalize hcap : grownCap w s.size 0 el = cap at *
  have hbl : (bytesV s).length = s.size := by simp [bytesV]
  have hsz : ((bytesV s ++ List.replicate (cap - s.size) (Value.int .u8 0)).toArray : Array Value).size = cap := by simp [hbl]; omega
  refine ⟨upd ι t w.heap.size, (w.drew.alloc (.cells (bytesV s ++ List.replicate (cap - s.size) (Value.int .u8 0)).toArray el)).freeze ⟨w.heap.size, cap, none⟩ 1, .slice (some ⟨w.heap.size, 0, none⟩) s.size cap, F, _, _, .inl ?_, ?_, ?_, fun u hu => upd_ne ι (fun e => by subst e; simp at hD; exact hD hu), h cap hc1 hc2⟩
  · obtain ⟨dst, op, type, pos, after, guard⟩ := o
    simp only at ho
    subst ho
    have e1 : (s.data.map fun b => Value.int .u8 b.toNat) ++ Array.replicate (cap - s.size) (Value.int .u8 0) = (bytesV s ++ List.replicate (cap - s.size) (Value.int .u8 0)).toArray := by
      apply Array.ext'; simp [bytesV]
    have hcap' : (Question.appendCap s.size 0 el).cut (w.tape w.drawn (Question.appendCap s.size 0 el)) = cap := hcap
    simp only [execOp, hF.ev hx, cV_string, convert, Sem.run_bind, run_underlying hds, run_underlying hdd, run_underlying hde, Result.andThen_ok, Conv.stringToBytes, run_choose, Question.forced, Bool.false_eq_true, if_false, hcap', e1, newRow, run_newObj, Sem.run_pure, markStringish, run_shape, World.shape?]
    simp [hsz]
    rfl
  · have := (hF.nt (fun u hu => upd_ne ι (t := t) (b := w.heap.size) hu) hL).put hN (.slice (some ⟨t, 0, some 0⟩) s.size cap)
    rw [hd]
    simpa [upd_eq] using this
  · have hnid : w.heap.size ∉ (K.map fun x => ι x.1) ++ F.ch.map Prod.fst := fun hm => by have := hS.lt_own _ hm; omega
    have hheap : ((w.drew.alloc (.cells (bytesV s ++ List.replicate (cap - s.size) (Value.int .u8 0)).toArray el)).freeze ⟨w.heap.size, cap, none⟩ 1).heap = w.heap.push (.cells (bytesV s ++ List.replicate (cap - s.size) (Value.int .u8 0)).toArray el (cap, cap + 1)) := by
      have hal : (w.drew.alloc (.cells (bytesV s ++ List.replicate (cap - s.size) (Value.int .u8 0)).toArray el)).heap = w.heap.push (.cells (bytesV s ++ List.replicate (cap - s.size) (Value.int .u8 0)).toArray el) := rfl
      simp only [World.freeze, Nat.one_ne_zero, if_false, hal]
      apply Array.ext_getElem?
      intro k
      rw [Array.getElem?_modify]
      by_cases hk : w.heap.size = k
      · subst hk
        simp
      · rw [if_neg hk, Array.getElem?_push, Array.getElem?_push]
        simp only [if_neg (Ne.symm hk)]
    refine hS.re (List.Sublist.refl _) hK hS.below.size hnid (by rw [hheap]; simp) (fun k hk _ => by rw [hheap, Array.getElem?_push, if_neg (by omega)]) rfl rfl rfl ⟨List.replicate (cap - s.size) (Value.int .u8 0), (cap, cap + 1), ?_, ?_, .inr ⟨rfl, Nat.le_refl _⟩, ?_⟩ (fun _ v hv => by obtain ⟨b, _, rfl⟩ := List.mem_map.1 hv; rfl)
    · rw [hheap, Array.getElem?_push, if_pos rfl]; simp only [Row.c, bytesV_plain]
    · simp only [Row.c, bytesV_plain, hbl]; simp; omega
    · intro v hv
      simp only [Row.c, bytesV_plain] at hv
      rcases List.mem_append.1 hv with hv | hv
      · obtain ⟨b, _, rfl⟩ := List.mem_map.1 hv; rfl
      · rw [(List.mem_replicate.1 hv).2]; rfl
end
end Go.Proofs.Ytnkddjdmpnghmaa.Am
namespace Go.Proofs.Ytnkddjdmpnghmaa.Am
set_option linter.unusedSimpArgs false
set_option linter.unusedVariables false
open Go Go.RowKit
abbrev Pst := Mem → Slots → Own → Prop
def Lft (N : Nat) (D : List Nat) (ι0 : Nat → Nat) (S : Exit → Pst) : Exit → Act → World → Prop :=
  fun e a w => ∃ (ι : Nat → Nat) (F : Mem) (L : Slots) (K : Own), Fr N ι L a ∧ St F ι K w ∧ (∀ t ∈ D, ι t = ι0 t) ∧ S e F L K
theorem Lft.tr {N : Nat} {D : List Nat} {ι0 ι1 : Nat → Nat} {S : Exit → Pst} (h : ∀ t ∈ D, ι1 t = ι0 t) {e : Exit} {a : Act} {w : World} (hl : Lft N D ι1 S e a w) : Lft N D ι0 S e a w := by
  obtain ⟨ι, F, L, K, h1, h2, h3, h4⟩ := hl
  exact ⟨ι, F, L, K, h1, h2, fun t ht => (h3 t ht).trans (h t ht), h4⟩
def WP (P : Program) (N : Nat) (D : List Nat) (c : Code) (S : Exit → Pst) : Pst := fun F L K =>
  ∀ (ι : Nat → Nat) (a : Act) (w : World), Fr N ι L a → St F ι K w → c.wp P (Lft N D ι S) a w
inductive SI where
  | code (c : Code)
  | blk (id : Nat)
  | back (Φ : Pst)
structure Cx where
  P : Program
  N : Nat
  D : List Nat
  R : Exit → Pst
def sem (X : Cx) : List SI → Exit → Pst
  | [], e => X.R e
  | .code c :: s, e => match e with
    | .normal => WP X.P X.N X.D c (sem X s)
    | e => sem X s e
  | .blk id :: s, e => match e with
    | .exit j => if j = id then sem X s .normal else sem X s (.exit j)
    | e => sem X s e
  | .back Φ :: s, e => match e with
    | .normal => Φ
    | e => sem X s e
def J (X : Cx) (s : List SI) : Pst := sem X s .normal
def JL (X : Cx) (ops : Array Oper) (l : List Oper) (s : List SI) : Pst := fun F L K =>
  ∀ (ι : Nat → Nat) (a : Act) (w : World), Fr X.N ι L a → St F ι K w → wpList X.P ops (Lft X.N X.D ι (sem X s)) l a w
theorem upon_mono {P : Program} {o : Oper} {a : Act} {n n' : Act → World → Prop} {Q Q' : Exit → Act → World → Prop} (hn : ∀ a w, n a w → n' a w) (hQ : ∀ e a w, Q e a w → Q' e a w) {r : Result Next} (h : o.upon P a n Q r) : o.upon P a n' Q' r := by
  have hlet : LetsOut Q → LetsOut Q' := fun ⟨a, w, h⟩ => ⟨a, w, hQ _ _ _ h⟩
  cases r with
  | ok x w =>
    cases x <;> simp only [Oper.upon] at h ⊢ <;> first
      | exact hn _ _ h
      | exact Calls.mono h (fun e w' he => by cases e <;> first | exact hn _ _ he | exact hQ _ _ _ he | exact hlet he)
      | exact Rows.mono h (fun _ _ he => hn _ _ he)
  | halt x w => cases x <;> simp only [Oper.upon] at h ⊢ <;> exact hQ _ _ _ h
theorem wpList_mono {P : Program} {ops : Array Oper} {Q Q' : Exit → Act → World → Prop} (hQ : ∀ e a w, Q e a w → Q' e a w) : ∀ {l : List Oper} {a : Act} {w : World}, wpList P ops Q l a w → wpList P ops Q' l a w
  | [], _, _, h => hQ _ _ _ h
  | o :: l, a, w, h => by
    unfold wpList at h ⊢
    split
    · rename_i hw
      rw [if_pos hw] at h
      rcases h with h | ⟨h1, a', w', h2⟩
      · exact .inl (upon_mono (fun a w => wpList_mono hQ) hQ h)
      · exact .inr ⟨h1, a', w', hQ _ _ _ h2⟩
    · rename_i hw
      rw [if_neg hw] at h
      exact wpList_mono hQ h
section
variable {X : Cx} {F : Mem} {L : Slots} {K : Own} {s : List SI}
theorem J.seq {x y : Code} (h : J X (.code x :: .code y :: s) F L K) : J X (.code (.seq x y) :: s) F L K := by
  intro ι a w hF hS
  refine wp_seq (wp_mono (h ι a w hF hS) fun e a' w' hl => ?_)
  obtain ⟨ι1, F1, L1, K1, h1, h2, h3, h4⟩ := hl
  cases e with
  | normal => exact wp_mono (h4 ι1 a' w' h1 h2) fun e a2 w2 hl => Lft.tr h3 hl
  | _ => exact ⟨ι1, F1, L1, K1, h1, h2, h3, h4⟩
theorem J.skip (h : J X s F L K) : J X (.code .skip :: s) F L K := fun ι a w hF hS => wp_skip ⟨ι, F, L, K, hF, hS, fun _ _ => rfl, h⟩
theorem J.label {l : Nat} (h : J X s F L K) : J X (.code (.label l) :: s) F L K := fun ι a w hF hS => wp_label ⟨ι, F, L, K, hF, hS, fun _ _ => rfl, h⟩
theorem J.block {id : Nat} {c : Code} (h : J X (.code c :: .blk id :: s) F L K) : J X (.code (.block id c) :: s) F L K := by
  intro ι a w hF hS
  refine wp_block (wp_mono (h ι a w hF hS) fun e a' w' hl => ?_)
  obtain ⟨ι1, F1, L1, K1, h1, h2, h3, h4⟩ := hl
  cases e with
  | exit j =>
    simp only [Exit.inBlock]
    simp only [sem] at h4
    split at h4
    · rename_i e; rw [if_pos e]; exact ⟨ι1, F1, L1, K1, h1, h2, h3, h4⟩
    · rename_i e; rw [if_neg e]; exact ⟨ι1, F1, L1, K1, h1, h2, h3, h4⟩
  | _ => exact ⟨ι1, F1, L1, K1, h1, h2, h3, h4⟩
theorem J.blk {id : Nat} (h : J X s F L K) : J X (.blk id :: s) F L K := h
/-- out of a block -/
def exitS (id : Nat) : List SI → List SI
  | [] => []
  | .blk j :: s => if id = j then s else exitS id s
  | _ :: s => exitS id s
def hasB (id : Nat) : List SI → Bool
  | [] => false
  | .blk j :: s => id == j || hasB id s
  | _ :: s => hasB id s
theorem sem_exit {id : Nat} : ∀ {s : List SI}, hasB id s = true → sem X (exitS id s) .normal F L K → sem X s (.exit id) F L K
  | [], h, _ => by simp [hasB] at h
  | .blk j :: s, h, hj => by
    simp only [exitS] at hj
    simp only [sem]
    by_cases e : id = j
    · rw [if_pos e] at hj ⊢; exact hj
    · rw [if_neg e] at hj ⊢
      have : hasB id s = true := by
        have : (id == j) = false := by simpa using e
        simpa [hasB, this] using h
      exact sem_exit this hj
  | .code c :: s, h, hj => sem_exit (s := s) h hj
  | .back Φ :: s, h, hj => sem_exit (s := s) h hj
theorem J.exit {id : Nat} (hb : hasB id s = true) (h : J X (exitS id s) F L K) : J X (.code (.exit id) :: s) F L K := fun ι a w hF hS => wp_exit ⟨ι, F, L, K, hF, hS, fun _ _ => rfl, sem_exit hb h⟩
theorem sem_ret : ∀ {s : List SI}, X.R .ret F L K → sem X s .ret F L K
  | [], h => h
  | .blk j :: s, h => sem_ret (s := s) h
  | .code c :: s, h => sem_ret (s := s) h
  | .back Φ :: s, h => sem_ret (s := s) h
theorem J.ret (h : X.R .ret F L K) : J X (.code .ret :: s) F L K := fun ι a w hF hS => wp_ret ⟨ι, F, L, K, hF, hS, fun _ _ => rfl, sem_ret h⟩
theorem J.fin (h : X.R .normal F L K) : J X [] F L K := h
theorem J.cond {c : Operand} {x y : Code} {b : Bool} (hc : evO L c = some (.bool b)) (ht : b = true → J X (.code x :: s) F L K) (hf : b = false → J X (.code y :: s) F L K) : J X (.code (.cond c x y) :: s) F L K := by
  intro ι a w hF hS
  have : a.eval c = .bool b := hF.ev hc
  exact wp_cond_split this (fun h => ht h ι a w hF hS) (fun h => hf h ι a w hF hS)
theorem J.condT {c : Operand} {x y : Code} (hc : evO L c = some (.bool true)) (h : J X (.code x :: s) F L K) : J X (.code (.cond c x y) :: s) F L K := J.cond hc (fun _ => h) (fun h => by cases h)
theorem J.condF {c : Operand} {x y : Code} (hc : evO L c = some (.bool false)) (h : J X (.code y :: s) F L K) : J X (.code (.cond c x y) :: s) F L K := J.cond hc (fun h => by cases h) (fun _ => h)
theorem J.condD {c : Operand} {x y : Code} {p : Prop} [Decidable p] (hc : evO L c = some (.bool (decide p))) (ht : p → J X (.code x :: s) F L K) (hf : ¬ p → J X (.code y :: s) F L K) : J X (.code (.cond c x y) :: s) F L K :=
  J.cond hc (fun h => ht (of_decide_eq_true h)) (fun h => hf (of_decide_eq_false h))
theorem J.condN {c : Operand} {x y : Code} {p : Prop} [Decidable p] (hc : evO L c = some (.bool (!decide p))) (ht : ¬ p → J X (.code x :: s) F L K) (hf : p → J X (.code y :: s) F L K) : J X (.code (.cond c x y) :: s) F L K :=
  J.cond hc (fun h => ht (by simpa using h)) (fun h => hf (by simpa using h))
theorem J.region {id : Nat} {ops : Array Oper} (h : JL X ops ops.toList s F L K) : J X (.code (.region id ops false) :: s) F L K := fun ι a w hF hS => wp_region_list (h ι a w hF hS)
theorem J.reg {id : Nat} {l : List Oper} (h : JL X l.toArray l s F L K) : J X (.code (.region id l.toArray false) :: s) F L K := J.region (by simpa using h)
theorem JL.nil {ops : Array Oper} (h : J X s F L K) : JL X ops [] s F L K := fun ι a w hF hS => ⟨ι, F, L, K, hF, hS, fun _ _ => rfl, h⟩
theorem JL.tr {ops : Array Oper} {l : List Oper} {ι0 ι1 : Nat → Nat} (h : ∀ t ∈ X.D, ι1 t = ι0 t) {a : Act} {w : World} (hl : wpList X.P ops (Lft X.N X.D ι1 (sem X s)) l a w) : wpList X.P ops (Lft X.N X.D ι0 (sem X s)) l a w := by
  exact wpList_mono (fun e a w hq => Lft.tr h hq) hl
/-- one operation -/
theorem JL.step {ops : Array Oper} {o : Oper} {l : List Oper} (hg : o.guard = none) (h : Go1 X.P X.N X.D F L K o (fun F' L' K' => JL X ops l s F' L' K')) : JL X ops (o :: l) s F L K := by
  intro ι a w hF hS
  obtain ⟨ι1, w1, v, F1, L1, K1, hrun, h1, h2, h3, h4⟩ := h ι a w hF hS
  refine wpList_plain hg fun Kc hK => ?_
  have hk := hK _ _ (JL.tr h3 (h4 ι1 _ w1 h1 h2))
  simp only [Oper.wp]
  rcases hrun with hr | ⟨hr, rfl⟩
  · rw [hr]; exact hk
  · rw [hr]; exact hk
/-- what a guard says -/
theorem JL.wanted {ops : Array Oper} {o : Oper} {j d : Nat} {want b : Bool} {N : Nat} {ι : Nat → Nat} {a : Act} (hF : Fr N ι L a) (hg : o.guard = some (j, want)) (hj : (ops[j]?).bind (·.dst) = some d) (hb : L.lookup d = some (.bool b)) : Region.wanted o (yielded ops a.tmps) = (b == want) := by
  have hs := hF.slot d _ hb
  simp only [Region.wanted, hg, yielded, hj, Option.bind_some, hs, cV_bool]
  cases b <;> cases want <;> rfl
theorem JL.stepG {ops : Array Oper} {o : Oper} {l : List Oper} {j d : Nat} {want : Bool} (hg : o.guard = some (j, want)) (hj : (ops[j]?).bind (·.dst) = some d) (hb : L.lookup d = some (.bool want)) (h : Go1 X.P X.N X.D F L K o (fun F' L' K' => JL X ops l s F' L' K')) : JL X ops (o :: l) s F L K := by
  intro ι a w hF hS
  obtain ⟨ι1, w1, v, F1, L1, K1, hrun, h1, h2, h3, h4⟩ := h ι a w hF hS
  have hk := JL.tr h3 (h4 ι1 _ w1 h1 h2)
  unfold wpList
  rw [if_pos (by rw [JL.wanted hF hg hj hb]; simp)]
  left
  simp only [Oper.wp]
  rcases hrun with hr | ⟨hr, rfl⟩
  · rw [hr]; exact hk
  · rw [hr]; exact hk
theorem JL.pass {ops : Array Oper} {o : Oper} {l : List Oper} {j d e : Nat} {want b : Bool} (hg : o.guard = some (j, want)) (hj : (ops[j]?).bind (·.dst) = some d) (hb : L.lookup d = some (.bool b)) (hne : (b == want) = false) (hd : o.dst = some e) (hN : e < X.N) (h : JL X ops l s F ((e, undef) :: L) K) : JL X ops (o :: l) s F L K := by
  intro ι a w hF hS
  unfold wpList
  rw [if_neg (by rw [JL.wanted hF hg hj hb, hne]; simp), hd]
  have := hF.put hN undef
  rw [show cV ι undef = undef from by simp [undef]] at this
  exact h ι _ w this hS
theorem JL.passU {ops : Array Oper} {o : Oper} {l : List Oper} {j d e : Nat} {want : Bool} (hg : o.guard = some (j, want)) (hj : (ops[j]?).bind (·.dst) = some d) (hb : L.lookup d = some undef) (hd : o.dst = some e) (hN : e < X.N) (h : JL X ops l s F ((e, undef) :: L) K) : JL X ops (o :: l) s F L K := by
  intro ι a w hF hS
  have hs := hF.slot d _ hb
  unfold wpList
  rw [if_neg (by simp [Region.wanted, hg, yielded, hj, hs, undef]), hd]
  have := hF.put hN undef
  rw [show cV ι undef = undef from by simp [undef]] at this
  exact h ι _ w this hS
/-- a test's outcome, told apart -/
theorem JL.case {ops : Array Oper} {l : List Oper} {d : Nat} {b : Bool} (hb : L.lookup d = some (.bool b)) (ht : b = true → JL X ops l s F ((d, .bool true) :: L) K) (hf : b = false → JL X ops l s F ((d, .bool false) :: L) K) : JL X ops l s F L K := by
  intro ι a w hF hS
  have aux : ∀ q, b = q → Fr X.N ι ((d, .bool q) :: L) a := fun q e => ⟨hF.size, hF.defers, fun s v hv => by
    rw [List.lookup_cons] at hv
    split at hv
    · rename_i e2
      have e1 : s = d := by simpa using e2
      subst e1
      simp only [Option.some.injEq] at hv
      subst hv
      rw [← e]; exact hF.slot s _ hb
    · exact hF.slot s v hv⟩
  cases hq : b with
  | true => exact ht hq ι a w (aux true hq) hS
  | false => exact hf hq ι a w (aux false hq) hS
theorem JL.caseD {ops : Array Oper} {l : List Oper} {d : Nat} {p : Prop} [Decidable p] (hb : L.lookup d = some (.bool (decide p))) (ht : p → JL X ops l s F ((d, .bool true) :: L) K) (hf : ¬ p → JL X ops l s F ((d, .bool false) :: L) K) : JL X ops l s F L K :=
  JL.case hb (fun h => ht (of_decide_eq_true h)) (fun h => hf (of_decide_eq_false h))
theorem JL.caseN {ops : Array Oper} {l : List Oper} {d : Nat} {p : Prop} [Decidable p] (hb : L.lookup d = some (.bool (!decide p))) (ht : ¬ p → JL X ops l s F ((d, .bool true) :: L) K) (hf : p → JL X ops l s F ((d, .bool false) :: L) K) : JL X ops l s F L K :=
  JL.case hb (fun h => ht (by simpa using h)) (fun h => hf (by simpa using h))
/-- less is known -/
def LSub : Slots → Slots → Prop
  | [], _ => True
  | x :: L0, L => L.lookup x.1 = some x.2 ∧ LSub L0 L
def KSub : Own → Own → Prop
  | [], _ => True
  | x :: K0, K => K.lookup x.1 = some x.2 ∧ (K0.all (·.1 != x.1)) = true ∧ KSub K0 K
theorem LSub.get : ∀ {L0 L : Slots}, LSub L0 L → ∀ s v, L0.lookup s = some v → L.lookup s = some v
  | [], _, _, s, v, h => by simp at h
  | x :: L0, L, h, s, v, hv => by
    obtain ⟨u, y⟩ := x
    rw [List.lookup_cons] at hv
    split at hv
    · rename_i e
      have e1 : s = u := by simpa using e
      subst e1
      simp only [Option.some.injEq] at hv
      subst hv
      exact h.1
    · exact LSub.get h.2 s v hv
theorem Fr.weak {N : Nat} {ι : Nat → Nat} {L0 : Slots} {a : Act} (h : Fr N ι L a) (hs : LSub L0 L) : Fr N ι L0 a := ⟨h.size, h.defers, fun s v hv => h.slot s v (hs.get s v hv)⟩
theorem KSub.mem : ∀ {K0 K : Own}, KSub K0 K → ∀ x ∈ K0, K.lookup x.1 = some x.2
  | [], _, _, x, h => by simp at h
  | y :: K0, K, h, x, hx => by
    rcases List.mem_cons.1 hx with rfl | hx
    · exact h.1
    · exact KSub.mem h.2.2 x hx
theorem KSub.tags : ∀ {K0 K : Own}, KSub K0 K → (K0.map Prod.fst).Nodup
  | [], _, _ => by simp
  | y :: K0, K, h => by
    simp only [List.map_cons, List.nodup_cons]
    refine ⟨fun hm => ?_, KSub.tags h.2.2⟩
    obtain ⟨x, hx, e⟩ := List.mem_map.1 hm
    have := List.all_eq_true.1 h.2.1 x hx
    simp [e] at this
theorem nodup_map_inj {α β γ : Type} {f : α → β} {g : α → γ} : ∀ {l : List α}, (l.map f).Nodup → (∀ x ∈ l, ∀ y ∈ l, g x = g y → f x = f y) → (l.map g).Nodup
  | [], _, _ => by simp
  | x :: l, h, hi => by
    simp only [List.map_cons, List.nodup_cons] at h ⊢
    refine ⟨fun hm => h.1 ?_, nodup_map_inj h.2 (fun a ha b hb => hi a (List.mem_cons_of_mem _ ha) b (List.mem_cons_of_mem _ hb))⟩
    obtain ⟨y, hy, e⟩ := List.mem_map.1 hm
    exact List.mem_map.2 ⟨y, hy, (hi x List.mem_cons_self y (List.mem_cons_of_mem _ hy) e.symm).symm⟩
theorem St.weak {ι : Nat → Nat} {K0 : Own} {w : World} (h : St F ι K w) (hs : KSub K0 K) : St F ι K0 w := by
  have hm : ∀ x ∈ K0, x ∈ K := fun x hx => lookup_mem (hs.mem x hx)
  have hnd := List.nodup_append.1 h.nodup
  refine ⟨h.below, List.nodup_append.2 ⟨?_, hnd.2.1, fun a ha b hb => hnd.2.2 a ?_ b hb⟩, fun x hx => h.own x (hm x hx), h.ext⟩
  · exact nodup_map_inj (f := Prod.fst) hs.tags fun x hx y hy e => by rw [nodup_inj (f := fun x : Nat × Row => ι x.1) hnd.1 x (hm x hx) y (hm y hy) e]
  · obtain ⟨x, hx, rfl⟩ := List.mem_map.1 ha
    exact List.mem_map.2 ⟨x, hm x hx, rfl⟩
theorem WP.weak {P : Program} {N : Nat} {D : List Nat} {c : Code} {S : Exit → Pst} {L0 : Slots} {K0 : Own} (hL : LSub L0 L) (hK : KSub K0 K) (h : WP P N D c S F L0 K0) : WP P N D c S F L K := fun ι a w hF hS => h ι a w (hF.weak hL) (hS.weak hK)
theorem J.weak {c : Code} {L0 : Slots} {K0 : Own} (hL : LSub L0 L) (hK : KSub K0 K) (h : J X (.code c :: s) F L0 K0) : J X (.code c :: s) F L K := WP.weak hL hK h
theorem JL.weak {ops : Array Oper} {l : List Oper} {L0 : Slots} {K0 : Own} (hL : LSub L0 L) (hK : KSub K0 K) (h : JL X ops l s F L0 K0) : JL X ops l s F L K := fun ι a w hF hS => h ι a w (hF.weak hL) (hS.weak hK)
theorem J.cut {c : Code} (Φ : Pst) (h : J X (.code c :: .back Φ :: s) F L K) (hn : ∀ F' L' K', Φ F' L' K' → J X s F' L' K') : J X (.code c :: s) F L K := by
  intro ι a w hF hS
  refine wp_mono (h ι a w hF hS) fun e a' w' hl => ?_
  obtain ⟨ι1, F1, L1, K1, h1, h2, h3, h4⟩ := hl
  refine ⟨ι1, F1, L1, K1, h1, h2, h3, ?_⟩
  cases e with
  | normal => exact hn _ _ _ h4
  | _ => exact h4
theorem J.back {Φ : Pst} (h : Φ F L K) : J X (.back Φ :: s) F L K := h
/-- a loop: I says how it stands at each round's head, by a number that falls -/
theorem wp_loop_ix {P : Program} {c : Code} {Q : Exit → Act → World → Prop} (I : Nat → Act → World → Prop) (round : ∀ n a w, I n a w → c.wp P (Exit.then (fun a' w' => ∃ m, m < n ∧ I m a' w') Q) a w) :
    ∀ (n : Nat) (a : Act) (w : World), I n a w → (Code.loop c).wp P Q a w := by
  intro n a w hI b k cs
  have key : ∀ n a w, I n a w → ∃ e a' w', Q e a' w' ∧ Arrives P (lone (b.at a (.code c :: .inLoop c :: k)) cs w) b k cs e a' w' := by
    intro n
    induction n using Nat.strongRecOn with
    | _ n ih =>
      intro a w hI
      obtain ⟨e, a₁, w₁, hq, harr⟩ := round n a w hI b (.inLoop c :: k) cs
      cases e with
      | normal =>
        obtain ⟨m, hlt, hI₁⟩ := hq
        obtain ⟨e₂, a₂, w₂, hq₂, harr₂⟩ := ih m hlt a₁ w₁ hI₁
        exact ⟨e₂, a₂, w₂, hq₂, .of_steps (Steps.trans harr (.one step_inLoop)) harr₂⟩
      | exit id => exact ⟨_, a₁, w₁, hq, .pass (x := .inLoop c) rfl (fun _ _ => .inl (by simp)) harr⟩
      | goto l => exact ⟨_, a₁, w₁, hq, .pass (x := .inLoop c) rfl (fun _ _ => .inl (by simp)) harr⟩
      | ret => exact ⟨_, a₁, w₁, hq, .pass (x := .inLoop c) rfl (fun _ _ => .inl (by simp)) harr⟩
      | panic ch => exact ⟨_, a₁, w₁, hq, .pass (x := .inLoop c) rfl (fun _ _ => .inl (by simp)) harr⟩
      | outgrown => exact ⟨_, a₁, w₁, hq, .pass (x := .inLoop c) rfl (fun _ _ => .inl (by simp)) harr⟩
  obtain ⟨e, a', w', hq, harr⟩ := key n a w hI
  exact ⟨e, a', w', hq, .of_steps (.one step_loop) harr⟩
theorem J.loop {c : Code} {α : Type} (I : α → Pst) (μ : α → Nat) (x0 : α) (h0 : I x0 F L K) (round : ∀ x F L K, I x F L K → J X (.code c :: .back (fun F' L' K' => ∃ x', μ x' < μ x ∧ I x' F' L' K') :: s) F L K) : J X (.code (.loop c) :: s) F L K := by
  intro ι a w hF hS
  refine wp_loop_ix (fun n a w => ∃ (x : α) (ι1 : Nat → Nat) (F1 : Mem) (L1 : Slots) (K1 : Own), μ x = n ∧ Fr X.N ι1 L1 a ∧ St F1 ι1 K1 w ∧ (∀ t ∈ X.D, ι1 t = ι t) ∧ I x F1 L1 K1) ?_ (μ x0) a w ⟨x0, ι, F, L, K, rfl, hF, hS, fun _ _ => rfl, h0⟩
  rintro n a w ⟨x, ι1, F1, L1, K1, rfl, h1, h2, h3, h4⟩
  refine wp_mono (round x F1 L1 K1 h4 ι1 a w h1 h2) fun e a' w' hl => ?_
  obtain ⟨ι2, F2, L2, K2, g1, g2, g3, g4⟩ := hl
  have hagree : ∀ t ∈ X.D, ι2 t = ι t := fun t ht => (g3 t ht).trans (h3 t ht)
  cases e with
  | normal =>
    obtain ⟨x', hlt, hI⟩ := g4
    exact ⟨μ x', hlt, x', ι2, F2, L2, K2, rfl, g1, g2, hagree, hI⟩
  | _ => exact ⟨ι2, F2, L2, K2, g1, g2, hagree, g4⟩
/-- a loop, the slots and rows written out -/
theorem J.loopS {c : Code} {α : Type} (ok : α → Prop) (Lf : α → Slots) (Kf : α → Own) (μ : α → Nat) (x0 : α) (h0 : ok x0) (hL : LSub (Lf x0) L) (hK : KSub (Kf x0) K)
    (round : ∀ x, ok x → J X (.code c :: .back (fun F' L' K' => ∃ x', μ x' < μ x ∧ ok x' ∧ F' = F ∧ LSub (Lf x') L' ∧ KSub (Kf x') K') :: s) F (Lf x) (Kf x)) : J X (.code (.loop c) :: s) F L K :=
  J.loop (fun x F' L' K' => ok x ∧ F' = F ∧ LSub (Lf x) L' ∧ KSub (Kf x) K') μ x0 ⟨h0, rfl, hL, hK⟩ (by
    rintro x F' L' K' ⟨h1, rfl, h2, h3⟩
    exact WP.weak h2 h3 (round x h1))
theorem J.cutS {c : Code} {α : Type} (ok : α → Prop) (Lf : α → Slots) (Kf : α → Own) (h : J X (.code c :: .back (fun F' L' K' => ∃ x', ok x' ∧ F' = F ∧ LSub (Lf x') L' ∧ KSub (Kf x') K') :: s) F L K) {c' : Code} {s' : List SI} (hs : s = .code c' :: s')
    (hn : ∀ x, ok x → J X s F (Lf x) (Kf x)) : J X (.code c :: s) F L K :=
  J.cut _ h (by
    rintro F' L' K' ⟨x, h1, rfl, h2, h3⟩
    subst hs
    exact J.weak h2 h3 (hn x h1))
end
end Go.Proofs.Ytnkddjdmpnghmaa.Am
namespace Go.Proofs.Ytnkddjdmpnghmaa.Am
set_option linter.unusedSimpArgs false
set_option linter.unusedVariables false
open Go Go.RowKit
def ldV (Θ : Tab) (F : Mem) (K : Own) (t : TypeId) (a : Addr) : Option Value := match Θ.lookup t with
  | some i => if aggB i.k then (match rdN F K a i.size with
    | some cs => some (.agg ⟨cs⟩)
    | none => none) else rdA F K a
  | none => none
def resE (Θ : Tab) (F : Mem) (L : Slots) (K : Own) : ResultVar → Option Value
  | .tmp t => match L.lookup t with
    | some (.tuple _) => none
    | r => r
  | .cell a t => match L.lookup a with
    | some (.pointer (some ad)) => ldV Θ F K t ad
    | _ => none
def resL (Θ : Tab) (F : Mem) (L : Slots) (K : Own) : List ResultVar → Option (List Value)
  | [] => some []
  | r :: rs => match resE Θ F L K r with
    | some v => match resL Θ F L K rs with
      | some l => some (v :: l)
      | none => none
    | none => none
def resV (Θ : Tab) (F : Mem) (L : Slots) (K : Own) (rs : List ResultVar) : Option Value := match resL Θ F L K rs with
  | some [v] => some v
  | some vs => some (.tuple ⟨vs⟩)
  | none => none
theorem ldV_run {P : Program} {Θ : Tab} (hT : tabOk P Θ = true) {F : Mem} {ι : Nat → Nat} {K : Own} {w : World} (hS : St F ι K w) {t : TypeId} {a : Addr} {v : Value} (h : ldV Θ F K t a = some v) :
    (loadVar t (cA ι a)).run P w = .ok (c2 ι v) w ∧ ∀ vs, v ≠ .tuple vs := by
  unfold ldV at h
  split at h <;> try (simp at h; done)
  rename_i i hi
  have ty := tab_ty hT hi
  split at h
  · rename_i hag
    split at h <;> try (simp at h; done)
    rename_i cs hcs
    simp only [Option.some.injEq] at h
    subst h
    obtain ⟨hl, hc⟩ := hS.rdN hcs
    have := run_loadCells_list (P := P) (w := w) (cA ι a) (cs.map (c1 ι)) hc
    rw [List.length_map, hl] at this
    refine ⟨?_, fun vs e => by cases e⟩
    simp only [loadVar, Sem.run_bind, ty.run_agg, Result.andThen_ok, hag, if_true, ty.run_size, this, Sem.run_pure, c2_agg]
    simp
  · rename_i hag
    have hag' : aggB i.k = false := by simpa using hag
    have h1 := hS.own_one h
    refine ⟨?_, fun vs e => by subst e; simp [Value.oneCell'] at h1⟩
    simp only [loadVar, Sem.run_bind, ty.run_agg, Result.andThen_ok, hag', Bool.false_eq_true, if_false, run_load, hS.rd h]
    cases v <;> first | rfl | simp [Value.oneCell'] at h1
def resS (tmps : Array Value) : ResultVar → Sem Value
  | .tmp t => pure (tmps.getD t undef)
  | .cell a t => do loadVar t (← asAddr (tmps.getD a undef))
theorem results_eq (fn : Func) (tmps : Array Value) : results fn tmps = (do let vs ← fn.results.mapM (resS tmps); pure (if h : vs.size = 1 then vs[0] else .tuple vs)) := by
  unfold results
  congr 1
theorem resL_run {P : Program} {Θ : Tab} (hT : tabOk P Θ = true) {F : Mem} {ι : Nat → Nat} {K : Own} {L : Slots} {N : Nat} {a : Act} {w : World} (hF : Fr N ι L a) (hS : St F ι K w) : ∀ {rs : List ResultVar} {vs : List Value}, resL Θ F L K rs = some vs →
    (rs.mapM (resS a.tmps)).run P w = .ok (vs.map (c2 ι)) w ∧ ∀ v ∈ vs, ∀ us, v ≠ .tuple us
  | [], vs, h => by simp only [resL, Option.some.injEq] at h; subst h; exact ⟨by simp, fun v h => by simp at h⟩
  | r :: rs, vs, h => by
    simp only [resL] at h
    split at h <;> try (simp at h; done)
    rename_i v hv
    split at h <;> try (simp at h; done)
    rename_i l hl
    simp only [Option.some.injEq] at h
    subst h
    obtain ⟨h1, h2⟩ := resL_run hT hF hS hl
    have hget : ∀ t u, L.lookup t = some u → a.tmps.getD t undef = cV ι u := fun t u hu => by simp [Array.getD_eq_getD_getElem?, hF.slot t u hu]
    cases r with
    | tmp t =>
      simp only [resE] at hv
      split at hv <;> try (simp at hv; done)
      rename_i hnt
      have hv2 : cV ι v = c2 ι v := by cases v <;> first | rfl | exact absurd hv (hnt _)
      refine ⟨?_, fun u hu => ?_⟩
      · simp only [List.mapM_cons, resS, Sem.run_bind, Sem.run_pure, Result.andThen_ok, hget t v hv, hv2, h1, List.map_cons]
      · rcases List.mem_cons.1 hu with rfl | hu
        · intro us e; subst e; exact hnt _ hv
        · exact h2 u hu
    | cell b t =>
      simp only [resE] at hv
      split at hv <;> try (simp at hv; done)
      rename_i ad had
      obtain ⟨h3, h4⟩ := ldV_run hT hS hv
      refine ⟨?_, fun u hu => ?_⟩
      · simp only [List.mapM_cons, resS, Sem.run_bind, Sem.run_pure, Result.andThen_ok, hget b _ had, cV_ptr, asAddr, h3, h1, List.map_cons]
      · rcases List.mem_cons.1 hu with rfl | hu
        · exact h4
        · exact h2 u hu
theorem resV_run {P : Program} {Θ : Tab} (hT : tabOk P Θ = true) {F : Mem} {ι : Nat → Nat} {K : Own} {L : Slots} {N : Nat} {a : Act} {w : World} (hF : Fr N ι L a) (hS : St F ι K w) {fn : Func} {v : Value} (h : resV Θ F L K fn.results.toList = some v) : (results fn a.tmps).run P w = .ok (cV ι v) w := by
  unfold resV at h
  have aux : ∀ vs, resL Θ F L K fn.results.toList = some vs → (results fn a.tmps).run P w = .ok (if h : ((vs.map (c2 ι)).toArray).size = 1 then ((vs.map (c2 ι)).toArray)[0] else .tuple (vs.map (c2 ι)).toArray) w := by
    intro vs hvs
    obtain ⟨h1, _⟩ := resL_run hT hF hS hvs
    rw [results_eq, Array.mapM_eq_mapM_toList]
    simp only [Sem.run_bind, Sem.run_map]
    simp only [h1, Result.andThen_ok, Sem.run_pure]
  split at h
  · rename_i u hu
    simp only [Option.some.injEq] at h
    subst h
    rw [aux _ hu]
    obtain ⟨_, h2⟩ := resL_run hT hF hS hu
    have hnt := h2 u (by simp)
    have : cV ι u = c2 ι u := by cases u <;> first | rfl | exact absurd rfl (hnt _)
    simp [this]
  · rename_i vs hne hvs
    simp only [Option.some.injEq] at h
    subst h
    rw [aux _ hvs]
    have hne1 : ¬ ((vs.map (c2 ι)).toArray).size = 1 := by
      intro e
      match vs, e with
      | [u], _ => exact hne u rfl
      | [], e => simp at e
      | _ :: _ :: _, e => simp at e
    rw [dif_neg hne1]
    simp [cV]
  · simp at h
def AC (P : Program) (D : List Nat) (f : FuncId) (args : List Value) (F : Mem) (K : Own) (Q : Value → Mem → Own → Prop) : Prop :=
  ∀ (ι : Nat → Nat) (w : World), St F ι K w → Calls P f (args.map (cV ι)).toArray w fun e w' => ∃ (ι' : Nat → Nat) (F' : Mem) (K' : Own) (v : Value), e = .returned (cV ι' v) ∧ St F' ι' K' w' ∧ (∀ t ∈ D, ι' t = ι t) ∧ Q v F' K'
theorem AC.mono {P : Program} {D : List Nat} {f : FuncId} {args : List Value} {F : Mem} {K : Own} {Q Q' : Value → Mem → Own → Prop} (h : AC P D f args F K Q) (hq : ∀ v F' K', Q v F' K' → Q' v F' K') : AC P D f args F K Q' :=
  fun ι w hS => (h ι w hS).mono fun _ _ ⟨ι', F', K', v, h1, h2, h3, h4⟩ => ⟨ι', F', K', v, h1, h2, h3, hq _ _ _ h4⟩
def argL : Nat → List Value → Slots
  | _, [] => []
  | i, v :: vs => (i, v) :: argL (i + 1) vs
theorem argL_get : ∀ {vs : List Value} {i s : Nat} {v : Value}, (argL i vs).lookup s = some v → i ≤ s ∧ vs[s - i]? = some v
  | [], _, _, _, h => by simp [argL] at h
  | u :: vs, i, s, v, h => by
    simp only [argL, List.lookup_cons] at h
    split at h
    · rename_i e
      have e1 : s = i := by simpa using e
      subst e1
      simp only [Option.some.injEq] at h
      subst h
      simp
    · rename_i e
      obtain ⟨h1, h2⟩ := argL_get h
      refine ⟨by omega, ?_⟩
      rw [show s - i = (s - (i + 1)) + 1 from by omega]
      simpa using h2
def retR (Θ : Tab) (rs : List ResultVar) (Q : Value → Mem → Own → Prop) : Exit → Pst
  | .normal, F, L, K => ∃ v, resV Θ F L K rs = some v ∧ Q v F K
  | .ret, F, L, K => ∃ v, resV Θ F L K rs = some v ∧ Q v F K
  | _, _, _, _ => False
theorem AC.enter {P : Program} {Θ : Tab} (hT : tabOk P Θ = true) {D : List Nat} {f : FuncId} {fn : Func} {c : Code} {args : List Value} {F : Mem} {K : Own} {Q : Value → Mem → Own → Prop} {n : Nat} {rs : List ResultVar} (hf : P.funcs[f]? = some fn) (hb : fn.body = some c) (hn : fn.ntmps = n) (hrs : fn.results.toList = rs) (hl : args.length ≤ n)
    (h : J ⟨P, n, D, retR Θ rs Q⟩ [.code c] F (argL 0 args) K) : AC P D f args F K Q := by
  subst hn hrs
  intro ι w hS
  refine calls_of_wp hf hb ?_
  have hFr : Fr fn.ntmps ι (argL 0 args) { tmps := (args.map (cV ι)).toArray ++ Array.replicate (fn.ntmps - (args.map (cV ι)).toArray.size) undef, defers := [] } := by
    refine ⟨by simp; omega, rfl, fun s v hv => ?_⟩
    obtain ⟨_, h2⟩ := argL_get hv
    simp only [Nat.sub_zero] at h2
    have hlt : s < args.length := (List.getElem?_eq_some_iff.1 h2).1
    rw [Array.getElem?_append_left (by simpa using hlt)]
    simp [h2]
  refine wp_mono (h ι _ w hFr hS) fun e a' w' hl => ?_
  obtain ⟨ι1, F1, L1, K1, h1, h2, h3, h4⟩ := hl
  cases e with
  | normal =>
    obtain ⟨v, hv, hQ⟩ := h4
    exact ⟨h1.defers, _, resV_run hT h1 h2 hv, ι1, F1, K1, v, rfl, h2, h3, hQ⟩
  | ret =>
    obtain ⟨v, hv, hQ⟩ := h4
    exact ⟨h1.defers, _, resV_run hT h1 h2 hv, ι1, F1, K1, v, rfl, h2, h3, hQ⟩
  | _ => exact h4.elim
end Go.Proofs.Ytnkddjdmpnghmaa.Am
namespace Go.Proofs.Ytnkddjdmpnghmaa.Am
set_option linter.unusedSimpArgs false
set_option linter.unusedVariables false
open Go Go.RowKit
def Mem.add (F : Mem) (X : List (Nat × Row)) : Mem := { F with ch := X ++ F.ch }
def C (P : Program) (f : FuncId) (args : List Value) (F : Mem) (Q : Value → List (Nat × Row) → Prop) : Prop :=
  ∀ (ι : Nat → Nat) (w : World), St F ι [] w → Calls P f (args.map (cV ι)).toArray w fun e w' => ∃ (v : Value) (X : List (Nat × Row)), e = .returned (cV ι v) ∧ (∀ κ, rV κ v = v) ∧ (∀ x ∈ X, ∀ u ∈ x.2.cs, plain1 u = true) ∧ St (F.add X) ι [] w' ∧ Q v X
theorem C.mono {P : Program} {f : FuncId} {args : List Value} {F : Mem} {Q Q' : Value → List (Nat × Row) → Prop} (h : C P f args F Q) (hq : ∀ v X, Q v X → Q' v X) : C P f args F Q' :=
  fun ι w hS => (h ι w hS).mono fun _ _ ⟨v, X, h1, h2, h5, h3, h4⟩ => ⟨v, X, h1, h2, h5, h3, hq _ _ h4⟩
def push (ι : Nat → Nat) (K : Own) (F : Mem) : Mem := { F with ch := (K.map fun x => (ι x.1, x.2.r ι)) ++ F.ch }
theorem rA_rA (ι κ : Nat → Nat) (a : Addr) : rA κ (rA ι a) = rA ι a := by
  obtain ⟨b, o, s⟩ := a
  rcases s with _ | _ | s <;> rfl
theorem r0_r0 (ι κ : Nat → Nat) (v : Value) : r0 κ (r0 ι v) = r0 ι v := r0_plain κ (plain0_r0 ι v)
theorem r1_r1 (ι κ : Nat → Nat) (v : Value) : r1 κ (r1 ι v) = r1 ι v := by
  cases v with
  | func fn x y => simp [r1_func, r0_r0, Function.comp_def]
  | pointer a => cases a with
    | none => rfl
    | some a => simp [r1, r0, rA_rA]
  | slice a n c => cases a with
    | none => rfl
    | some a => simp [r1, r0, rA_rA]
  | _ => rfl
theorem r2_r2 (ι κ : Nat → Nat) (v : Value) : r2 κ (r2 ι v) = r2 ι v := by
  cases v with
  | agg cs => simp [r2_agg, r1_r1, Function.comp_def]
  | func fn x y => simp [r2, r1_func, r0_r0, Function.comp_def]
  | pointer a => cases a <;> simp [r2, r1, r0, rA_rA]
  | slice a n c => cases a <;> simp [r2, r1, r0, rA_rA]
  | _ => rfl
theorem rV_rV (ι κ : Nat → Nat) (v : Value) : rV κ (rV ι v) = rV ι v := by
  cases v with
  | tuple vs => simp [r2_r2, Function.comp_def]
  | agg cs => simp [r1_r1, Function.comp_def]
  | func fn x y => simp [r0_r0, Function.comp_def]
  | pointer a => cases a <;> simp [rA_rA]
  | slice a n c => cases a <;> simp [rA_rA]
  | _ => rfl
theorem map_cV_rV (ι : Nat → Nat) (vs : List Value) : (vs.map (rV ι)).map (cV ι) = vs.map (cV ι) := by simp [cV_rV]
structure Val (ι : Nat → Nat) (K : Own) (F : Mem) : Prop where
  nodup : ((K.map fun x => ι x.1) ++ F.ch.map Prod.fst).Nodup
  own : ∀ x ∈ K, F.w0.heap.size ≤ ι x.1 ∧ ∀ v ∈ x.2.cs, v.oneCell' = true
theorem St.val {ι : Nat → Nat} {K : Own} {F : Mem} {w : World} (h : St F ι K w) : Val ι K F :=
  ⟨h.nodup, fun x hx => ⟨(h.own x hx).1, fun v hv => by
    obtain ⟨_, ⟨junk, fr, _, _, _, h1⟩, _⟩ := h.own x hx
    have := h1 (c1 ι v) (List.mem_append_left _ (List.mem_map.2 ⟨v, hv, rfl⟩))
    rwa [c1_oneCell] at this⟩⟩
theorem St.push {ι : Nat → Nat} {K : Own} {F : Mem} {w : World} (h : St F ι K w) (κ : Nat → Nat) : St (push ι K F) κ [] w := by
  refine ⟨h.below, ?_, fun x hx => by simp at hx, fun x hx => ?_⟩
  · simpa [Am.push, Function.comp_def] using h.nodup
  · rcases List.mem_append.1 hx with hx | hx
    · obtain ⟨y, hy, rfl⟩ := List.mem_map.1 hx
      exact ⟨(h.own y hy).1, by rw [Row.c_r]; exact (h.own y hy).2.1⟩
    · exact h.ext x hx
theorem St.pull {ι κ : Nat → Nat} {K : Own} {F : Mem} {X : List (Nat × Row)} {w w' : World} (h : St F ι K w) (h' : St ((Am.push ι K F).add X) κ [] w') : St (F.add X) ι K w' := by
  refine ⟨h'.below, ?_, fun x hx => ?_, fun x hx => ?_⟩
  · have := h'.nodup
    simp only [List.map_nil, List.nil_append, Mem.add, Am.push, List.map_append, List.map_map, Function.comp_def] at this ⊢
    refine (List.Perm.nodup_iff ?_).1 this
    rw [← List.append_assoc, ← List.append_assoc]
    exact List.Perm.append_right _ List.perm_append_comm
  · have h1 := h'.ext (ι x.1, x.2.r ι) (List.mem_append_right _ (List.mem_append_left _ (List.mem_map.2 ⟨x, hx, rfl⟩)))
    exact ⟨h1.1, by have h2 := h1.2; rwa [Row.c_r] at h2, (h.own x hx).2.2⟩
  · refine h'.ext x ?_
    rcases List.mem_append.1 hx with hx | hx
    · exact List.mem_append_left _ hx
    · exact List.mem_append_right _ (List.mem_append_right _ hx)
/-- reading goes on where more is there -/
def Mem.le (F F' : Mem) : Prop := ∀ a v, look F a = some v → look F' a = some v
theorem Mem.le.refl (F : Mem) : F.le F := fun _ _ h => h
theorem Mem.le.trans {F G H : Mem} (h : F.le G) (k : G.le H) : F.le H := fun a v hv => k a v (h a v hv)
theorem lookup_append_right {α : Type} {b : Nat} {l m : List (Nat × α)} (h : b ∉ l.map Prod.fst) : (l ++ m).lookup b = m.lookup b := by
  induction l with
  | nil => rfl
  | cons x l ih =>
    obtain ⟨u, r⟩ := x
    simp only [List.map_cons, List.mem_cons, not_or] at h
    rw [List.cons_append, List.lookup_cons]
    have : (b == u) = false := by simpa using h.1
    simp only [this]
    exact ih h.2
theorem look_more {F : Mem} {Y : List (Nat × Row)} (hn : (Y.map Prod.fst ++ F.ch.map Prod.fst).Nodup) : F.le ⟨F.w0, Y ++ F.ch⟩ := by
  intro a v h
  unfold look at h ⊢
  rw [Option.bind_eq_some_iff] at h ⊢
  obtain ⟨u, hu, h2⟩ := h
  refine ⟨u, ?_, h2⟩
  by_cases ha : a.block < F.w0.heap.size
  · rw [if_pos ha] at hu ⊢; exact hu
  · rw [if_neg ha] at hu ⊢
    rw [Option.bind_eq_some_iff] at hu ⊢
    obtain ⟨r, hr, hc⟩ := hu
    refine ⟨r, ?_, hc⟩
    simp only
    rw [lookup_append_right]
    · exact hr
    · intro hm
      exact (List.nodup_append.1 hn).2.2 a.block hm a.block (List.mem_map.2 ⟨_, lookup_mem hr, rfl⟩) rfl
theorem Val.le {ι : Nat → Nat} {K : Own} {F : Mem} (h : Val ι K F) : F.le (push ι K F) := by
  refine look_more ?_
  simpa [List.map_map, Function.comp_def] using h.nodup
theorem St.le_add {ι : Nat → Nat} {K : Own} {F : Mem} {X : List (Nat × Row)} {w : World} (h : St (F.add X) ι K w) : F.le (F.add X) := by
  refine look_more ?_
  have := (List.nodup_append.1 h.nodup).2.1
  simpa [Mem.add] using this
/-- one of the call's own rows, read by the callee -/
theorem Val.look {ι : Nat → Nat} {K : Own} {F : Mem} (h : Val ι K F) {t : Nat} {r : Row} (hr : K.lookup t = some r) {o : Nat} {v : Value} (hv : r.cs[o]? = some v) : look (push ι K F) ⟨ι t, o, none⟩ = some (r1 ι v) := by
  have hm := lookup_mem hr
  obtain ⟨hB, h1⟩ := h.own _ hm
  have hlk : (push ι K F).ch.lookup (ι t) = some (r.r ι) := by
    refine mem_lookup ?_ (List.mem_append_left _ (List.mem_map.2 ⟨_, hm, rfl⟩))
    simpa [push, List.map_map, Function.comp_def] using h.nodup
  unfold Am.look
  have hnb : ¬ (ι t < (push ι K F).w0.heap.size) := by simp only [push]; simp only at hB; omega
  simp only [hnb, if_false, hlk, Option.bind_some, cellAt, Row.r, List.getElem?_map, hv, Option.map_some]
  rw [if_pos (plain1_r1 ι (h1 v (List.mem_of_getElem? hv)))]
/-- rows that a callee left: what was read reads on, and they read as they are -/
structure New (F : Mem) (Y : List (Nat × Row)) : Prop where
  le : F.le (F.add Y)
  rows : ∀ x ∈ Y, ∀ (o : Nat) (u : Value), x.2.cs[o]? = some u → look (F.add Y) ⟨x.1, o, none⟩ = some u
  ids : ∀ x ∈ Y, F.w0.heap.size ≤ x.1
  nodup : (Y.map Prod.fst ++ F.ch.map Prod.fst).Nodup
theorem St.new_ {ι : Nat → Nat} {K : Own} {F : Mem} {X : List (Nat × Row)} {w : World} (h : St (F.add X) ι K w) (hp : ∀ x ∈ X, ∀ u ∈ x.2.cs, plain1 u = true) : New F X := by
  have hnd : (X.map Prod.fst ++ F.ch.map Prod.fst).Nodup := by
    have := (List.nodup_append.1 h.nodup).2.1
    simpa [Mem.add] using this
  refine ⟨h.le_add, fun x hx o u hu => ?_, fun x hx => (h.ext x (List.mem_append_left _ hx)).1, hnd⟩
  have hlk : (F.add X).ch.lookup x.1 = some x.2 := mem_lookup (by simpa [Mem.add] using hnd) (List.mem_append_left _ hx)
  have hB := (h.ext x (List.mem_append_left _ hx)).1
  unfold look
  have hnb : ¬ (x.1 < (F.add X).w0.heap.size) := by simp only [Mem.add] at hB ⊢; omega
  simp only [hnb, if_false, hlk, Option.bind_some, cellAt, hu]
  rw [if_pos (hp x hx u (List.mem_of_getElem? hu))]
end Go.Proofs.Ytnkddjdmpnghmaa.Am
namespace Go.Proofs.Ytnkddjdmpnghmaa.Am
set_option linter.unusedSimpArgs false
set_option linter.unusedVariables false
open Go Go.RowKit
/-- fewer rows are told -/
theorem St.sub {F : Mem} {Y X : List (Nat × Row)} {ι κ : Nat → Nat} {K : Own} {w : World} (h : St (F.add Y) ι K w) (hX : ∀ x ∈ X, x ∈ (K.map fun x => (ι x.1, x.2.r ι)) ++ Y) (hn : (X.map Prod.fst).Nodup) : St (F.add X) κ [] w := by
  have hnd := h.nodup
  simp only [Mem.add, List.map_append] at hnd
  rw [← List.append_assoc] at hnd
  obtain ⟨h1, h2, h3⟩ := List.nodup_append.1 hnd
  refine ⟨h.below, ?_, fun x hx => by simp at hx, fun x hx => ?_⟩
  · simp only [List.map_nil, List.nil_append, Mem.add, List.map_append]
    refine List.nodup_append.2 ⟨hn, h2, fun a ha b hb => h3 a ?_ b hb⟩
    obtain ⟨x, hx, rfl⟩ := List.mem_map.1 ha
    rcases List.mem_append.1 (hX x hx) with hq | hq
    · obtain ⟨y, hy, rfl⟩ := List.mem_map.1 hq
      exact List.mem_append_left _ (List.mem_map.2 ⟨y, hy, rfl⟩)
    · exact List.mem_append_right _ (List.mem_map.2 ⟨x, hq, rfl⟩)
  · rcases List.mem_append.1 hx with hx | hx
    · rcases List.mem_append.1 (hX x hx) with hq | hq
      · obtain ⟨y, hy, rfl⟩ := List.mem_map.1 hq
        exact ⟨(h.own y hy).1, by rw [Row.c_r]; exact (h.own y hy).2.1⟩
      · exact h.ext x (List.mem_append_left _ hq)
    · exact h.ext x (List.mem_append_right _ hx)
theorem St.cells {F : Mem} {ι : Nat → Nat} {K : Own} {w : World} (h : St F ι K w) {x : Nat × Row} (hx : x ∈ K.map fun x => (ι x.1, x.2.r ι)) : ∀ u ∈ x.2.cs, plain1 u = true := by
  obtain ⟨y, hy, rfl⟩ := List.mem_map.1 hx
  intro u hu
  simp only [Row.r] at hu
  obtain ⟨v, hv, rfl⟩ := List.mem_map.1 hu
  exact plain1_r1 ι ((h.val.own y hy).2 v hv)
/-- what is left of the call's memory to its caller -/
def outX (F : Mem) (Q : Value → List (Nat × Row) → Prop) (v : Value) (F' : Mem) (K' : Own) : Prop :=
  ∃ Y, F' = F.add Y ∧ (∀ x ∈ Y, ∀ u ∈ x.2.cs, plain1 u = true) ∧ ∀ ι, Val ι K' F' → ∃ X, (∀ x ∈ X, x ∈ (K'.map fun x => (ι x.1, x.2.r ι)) ++ Y) ∧ (X.map Prod.fst).Nodup ∧ Q (rV ι v) X
theorem outX.plain {F : Mem} {Q : Value → List (Nat × Row) → Prop} {v : Value} {K' : Own} (hv : ∀ κ, rV κ v = v) (h : Q v []) : outX F Q v F K' :=
  ⟨[], rfl, fun x hx => by simp at hx, fun ι _ => ⟨[], fun x hx => by simp at hx, by simp, by rw [hv]; exact h⟩⟩
theorem C.enter {P : Program} {Θ : Tab} (hT : tabOk P Θ = true) {f : FuncId} {fn : Func} {c : Code} {args : List Value} {F : Mem} {Q : Value → List (Nat × Row) → Prop} {n : Nat} {rs : List ResultVar} (hf : P.funcs[f]? = some fn) (hb : fn.body = some c) (hn : fn.ntmps = n) (hrs : fn.results.toList = rs) (hl : args.length ≤ n)
    (h : J ⟨P, n, [], retR Θ rs (outX F Q)⟩ [.code c] F (argL 0 args) []) : C P f args F Q := by
  intro ι w hS
  have := AC.enter hT hf hb hn hrs hl h ι w hS
  refine this.mono fun e w' ⟨ι', F', K', v, h1, h2, _, Y, h4, h5, h6⟩ => ?_
  subst h4
  obtain ⟨X, g1, g2, g3⟩ := h6 ι' h2.val
  refine ⟨rV ι' v, X, by rw [cV_rV]; exact h1, fun κ => rV_rV ι' κ v, fun x hx => ?_, h2.sub g1 g2, g3⟩
  rcases List.mem_append.1 (g1 x hx) with hq | hq
  · exact h2.cells hq
  · exact h5 x hq
def fnOk (P : Program) (f : FuncId) : Bool := match P.funcs[f]? with
  | some fn => !(fn.name == "runtime.NumGoroutine") && !fn.body.isNone
  | none => false
theorem fnOk_run {P : Program} {f : FuncId} (h : fnOk P f = true) (args : Array Value) (w : World) : (callFunc f args).run P w = .ok (.enter f args) w := by
  unfold fnOk at h
  cases hf : P.funcs[f]? with
  | none => simp [hf] at h
  | some fn =>
    simp only [hf, Bool.and_eq_true, Bool.not_eq_true'] at h
    have h1 : ¬ fn.name = "runtime.NumGoroutine" := by simpa using h.1
    have h2 : ¬ fn.body = none := by have := h.2; intro e; simp [e] at this
    simp [callFunc, hf, h1, h2]
/-- every tag is one of these -/
def tg0 (D : List Nat) : Value → Bool
  | .pointer (some a) => match a.spot with
    | some 0 => D.contains a.block
    | _ => true
  | .slice (some a) _ _ => match a.spot with
    | some 0 => D.contains a.block
    | _ => true
  | _ => true
def tg1 (D : List Nat) : Value → Bool
  | .func _ f c => f.toList.all (tg0 D) && c.toList.all (tg0 D)
  | v => tg0 D v
def tg2 (D : List Nat) : Value → Bool
  | .agg cs => cs.toList.all (tg1 D)
  | v => tg1 D v
def tgV (D : List Nat) : Value → Bool
  | .tuple vs => vs.toList.all (tg2 D)
  | v => tg2 D v
section
variable {ι κ : Nat → Nat} {D : List Nat} (hk : ∀ u ∈ D, κ u = ι u)
include hk
theorem cA_tg {a : Addr} (h : (match a.spot with | some 0 => D.contains a.block | _ => true) = true) : cA κ a = cA ι a := by
  obtain ⟨b, o, s⟩ := a
  rcases s with _ | _ | s
  · rfl
  · simp only [cA, hk _ (show b ∈ D by simpa using h)]
  · rfl
theorem c0_tg {v : Value} (h : tg0 D v = true) : c0 κ v = c0 ι v := by
  cases v with
  | pointer a => cases a with
    | none => rfl
    | some a => simp only [c0, cA_tg hk h]
  | slice a n c => cases a with
    | none => rfl
    | some a => simp only [c0, cA_tg hk h]
  | _ => rfl
theorem c1_tg {v : Value} (h : tg1 D v = true) : c1 κ v = c1 ι v := by
  cases v with
  | func fn x y =>
    simp only [tg1, Bool.and_eq_true] at h
    simp only [c1_func, map_nt (fun v => c0_tg hk) h.1, map_nt (fun v => c0_tg hk) h.2]
  | pointer a => exact c0_tg hk (by simpa only [tg1] using h)
  | slice a n c => exact c0_tg hk (by simpa only [tg1] using h)
  | _ => rfl
theorem c2_tg {v : Value} (h : tg2 D v = true) : c2 κ v = c2 ι v := by
  cases v with
  | agg cs => simp only [c2_agg, map_nt (fun v => c1_tg hk) (show cs.toList.all (tg1 D) = true from h)]
  | _ => exact c1_tg hk (by simpa only [tg2] using h)
theorem cV_tg {v : Value} (h : tgV D v = true) : cV κ v = cV ι v := by
  cases v with
  | tuple vs => simp only [cV_tuple, map_nt (fun v => c2_tg hk) (show vs.toList.all (tg2 D) = true from h)]
  | _ => exact c2_tg hk (by simpa only [tgV] using h)
end
section
variable {X : Cx} {F : Mem} {L : Slots} {K : Own} {s : List SI}
theorem callee_run {P : Program} {ι : Nat → Nat} {ρ : Operand → Value} {e : Operand → Option Value} (he : ∀ x u, e x = some u → ρ x = cV ι u) {o : Oper} {cal : Operand} {args : Array Operand} {ts : Array TypeId} {f : FuncId} {fst cap : Array Value} {vs : List Value} (ho : o.op = .call ⟨.value cal, args, ts⟩)
    (hcal : e cal = some (.func (.func f) fst cap)) (hs : (fst.toList.all s0 && cap.toList.all s0) = true) (hargs : mapE e args.toList = some vs) (hfn : fnOk P f = true) (w : World) :
    (execOp ρ o).run P w = .ok (.enter f ((fst.toList ++ vs ++ cap.toList).map (cV ι)).toArray) w := by
  obtain ⟨dst, op, type, pos, after, guard⟩ := o
  simp only at ho
  subst ho
  simp only [Bool.and_eq_true] at hs
  have e0 : ∀ l : Array Value, l.toList.all s0 = true → l.map (c0 ι) = (l.toList.map (cV ι)).toArray := fun l hl => by
    apply Array.ext'
    simp only [Array.toList_map]
    exact List.map_congr_left fun v hv => (s0_cV ι (List.all_eq_true.1 hl v hv)).symm
  simp only [execOp, resolve, he _ _ hcal, cV_func, Deferred.ofValue, Sem.run_bind, Sem.run_pure, Result.andThen_ok, invoke, map_arr he hargs, e0 _ hs.1, e0 _ hs.2]
  rw [fnOk_run hfn]
  simp
/-- a call -/
theorem JL.call {ops : Array Oper} {o : Oper} {l : List Oper} {cal : Operand} {args : Array Operand} {ts : Array TypeId} {f d : Nat} {fst cap : Array Value} {vs : List Value} {D : List Nat} (hg : o.guard = none) (ho : o.op = .call ⟨.value cal, args, ts⟩) (hd : o.dst = some d ∨ o.dst = none) (hN : d < X.N)
    (hcal : evO L cal = some (.func (.func f) fst cap)) (hs : (fst.toList.all s0 && cap.toList.all s0) = true) (hargs : mapE (evO L) args.toList = some vs) (hfn : fnOk X.P f = true) (htg : (L.all fun x => tgV D x.2) = true) (hD : (X.D.all fun t => D.contains t) = true)
    (h : AC X.P D f (fst.toList ++ vs ++ cap.toList) F K (fun v F' K' => JL X ops l s F' (if o.dst = none then L else (d, v) :: L) K')) : JL X ops (o :: l) s F L K := by
  intro ι a w hF hS
  refine wpList_plain hg fun Kc hK => ?_
  simp only [Oper.wp, callee_run (e := evO L) (fun x u hu => hF.ev hu) ho hcal hs hargs hfn w, Oper.upon]
  refine (h ι w hS).mono fun e w' ⟨ι', F', K', v, h1, h2, h3, h4⟩ => ?_
  subst h1
  have hF' : Fr X.N ι' L a := ⟨hF.size, hF.defers, fun s v hv => by rw [cV_tg h3 (List.all_eq_true.1 htg _ (lookup_mem hv))]; exact hF.slot s v hv⟩
  refine hK _ _ (JL.tr (ι1 := ι') (fun t ht => h3 t (by simpa using List.all_eq_true.1 hD t ht)) (h4 ι' _ w' ?_ h2))
  rcases hd with hd | hd
  · rw [hd]; simp only [reduceCtorEq, if_false]; exact hF'.put hN v
  · rw [hd]; simp only [if_true]; exact hF'.putNone _
/-- a call of a function that is told for whoever calls it -/
theorem JL.callC {ops : Array Oper} {o : Oper} {l : List Oper} {f d : Nat} {args : Array Operand} {ts : Array TypeId} {vs : List Value} {Q : Value → List (Nat × Row) → Prop} (hg : o.guard = none) (ho : o.op = .call ⟨.value (.func f), args, ts⟩) (hd : o.dst = some d) (hN : d < X.N)
    (hargs : mapE (evO L) args.toList = some vs) (hfn : fnOk X.P f = true) (h : ∀ ι, Val ι K F → F.le (push ι K F) → C X.P f (vs.map (rV ι)) (push ι K F) Q)
    (hk : ∀ v Y, Q v Y → (∀ κ, rV κ v = v) → (∀ x ∈ Y, ∀ u ∈ x.2.cs, plain1 u = true) → New F Y → JL X ops l s (F.add Y) ((d, v) :: L) K) : JL X ops (o :: l) s F L K := by
  intro ι a w hF hS
  refine wpList_plain hg fun Kc hK => ?_
  simp only [Oper.wp, callee_run (e := evO L) (fun x u hu => hF.ev hu) ho rfl rfl hargs hfn w, Oper.upon]
  have hc := h ι hS.val hS.val.le ι w (hS.push ι)
  rw [map_cV_rV] at hc
  simp only [List.nil_append, List.append_nil]
  refine hc.mono fun e w' ⟨v, Y, h1, h2, h5, h3, h4⟩ => ?_
  subst h1
  have hS' := hS.pull h3
  refine hK _ _ ?_
  rw [hd]
  have := hF.put hN v
  exact hk v Y h4 h2 h5 (hS'.new_ h5) ι _ w' this hS'
/-- the same, behind a guard that lets it run -/
theorem JL.callCG {ops : Array Oper} {o : Oper} {l : List Oper} {f d j e : Nat} {want : Bool} {args : Array Operand} {ts : Array TypeId} {vs : List Value} {Q : Value → List (Nat × Row) → Prop} (hg : o.guard = some (j, want)) (hj : (ops[j]?).bind (·.dst) = some e) (hb : L.lookup e = some (.bool want)) (ho : o.op = .call ⟨.value (.func f), args, ts⟩) (hd : o.dst = some d) (hN : d < X.N)
    (hargs : mapE (evO L) args.toList = some vs) (hfn : fnOk X.P f = true) (h : ∀ ι, Val ι K F → F.le (push ι K F) → C X.P f (vs.map (rV ι)) (push ι K F) Q)
    (hk : ∀ v Y, Q v Y → (∀ κ, rV κ v = v) → (∀ x ∈ Y, ∀ u ∈ x.2.cs, plain1 u = true) → New F Y → JL X ops l s (F.add Y) ((d, v) :: L) K) : JL X ops (o :: l) s F L K := by
  intro ι a w hF hS
  unfold wpList
  rw [if_pos (by rw [JL.wanted hF hg hj hb]; simp)]
  left
  simp only [Oper.wp, callee_run (e := evO L) (fun x u hu => hF.ev hu) ho rfl rfl hargs hfn w, Oper.upon]
  have hc := h ι hS.val hS.val.le ι w (hS.push ι)
  rw [map_cV_rV] at hc
  simp only [List.nil_append, List.append_nil]
  refine hc.mono fun e w' ⟨v, Y, h1, h2, h5, h3, h4⟩ => ?_
  subst h1
  have hS' := hS.pull h3
  rw [hd]
  have := hF.put hN v
  exact hk v Y h4 h2 h5 (hS'.new_ h5) ι _ w' this hS'
end
end Go.Proofs.Ytnkddjdmpnghmaa.Am
namespace Go.Proofs.Ytnkddjdmpnghmaa.Am
set_option linter.unusedSimpArgs false
set_option linter.unusedVariables false
open Go Go.RowKit
section
variable {P : Program} {ops : Array Oper} {Q : Exit → Act → World → Prop} {md : Region.Mode} {b : Nat} {S : World → Prop}
/-- Whatever order is picked, and S holds behind each operation, until operation b has come up. -/
def wpAnyB (P : Program) (md : Region.Mode) (ops : Array Oper) (Q : Exit → Act → World → Prop) (b : Nat) (S : World → Prop) : Nat → Array Bool → Act → World → Prop
  | 0, listed, a, w => Region.ready md ops listed = [] ∧ Q .normal a w
  | fuel + 1, listed, a, w =>
    (Region.ready md ops listed = [] → Q .normal a w) ∧
    ∀ i ∈ Region.ready md ops listed, wpOp P ops Q i (fun a' w' => ((listed.setIfInBounds i true).getD b false = false → S w') ∧ wpAnyB P md ops Q b S fuel (listed.setIfInBounds i true) a' w') a w
theorem wpAny_of_B : ∀ (fuel : Nat) (listed : Array Bool) (a : Act) (w : World), wpAnyB P md ops Q b S fuel listed a w → wpAny P md ops Q fuel listed a w
  | 0, _, _, _, h => h
  | fuel + 1, _, _, _, h => ⟨h.1, fun i hi => wpOp_mono (fun a' w' h' => wpAny_of_B fuel _ a' w' h'.2) (h.2 i hi)⟩
theorem wpAnyB_first {i : Nat} {oi : Oper} {v : Value} (hi : ops[i]? = some oi) (hsel : ∀ (j : Nat) (o : Oper) cs b, ops[j]? = some o → o.op ≠ .select cs b)
    (hQ : ∀ c a w, Q (.panic c) (a.put oi.dst v) w → Q (.panic c) a w) (hib : i ≠ b) (hbw : ∀ ob, ops[b]? = some ob → ∃ e ∈ ob.after, Region.binds md e = true ∧ e.on = i) :
    ∀ (fuel : Nat) (listed : Array Bool) (a : Act) (w : World), listed.getD b false = false →
      (∀ j oj, ops[j]? = some oj → j ≠ i → listed.getD j true = false → (∀ e ∈ oj.after, Region.binds md e = true → e.on ≠ i) → oi.apart ops oj = true) →
      i ∈ Region.ready md ops listed → YieldsIf P ops S oi v a → S w →
      wpAnyB P md ops Q b S fuel (listed.setIfInBounds i true) (a.put oi.dst v) w → wpAnyB P md ops Q b S (fuel + 1) listed a w := by
  intro fuel
  induction fuel with
  | zero =>
    intro listed a w hbl _ hr hy hS H
    refine ⟨fun h => (by rw [h] at hr; cases hr), fun j hj => ?_⟩
    by_cases hji : j = i
    · subst hji; exact hy.wpOp hi hS ⟨fun _ => hS, H⟩
    · have := ready_mono hj hji
      rw [H.1] at this
      cases this
  | succ fuel ih =>
    intro listed a w hbl hfree hr hy hS H
    refine ⟨fun h => (by rw [h] at hr; cases hr), fun j hj => ?_⟩
    by_cases hji : j = i
    · subst hji; exact hy.wpOp hi hS ⟨fun _ => hS, H⟩
    · have h1 := H.2 j (ready_mono hj hji)
      obtain ⟨hjun, oj, hoj, hall⟩ := mem_ready.1 hj
      have hnot : ∀ e ∈ oj.after, Region.binds md e = true → e.on ≠ i := fun e he hb heq => by
        have h1 := hall e he hb
        have h0 := (mem_ready.1 hr).1
        rw [heq] at h1
        rcases Nat.lt_or_ge i listed.size with h' | h'
        · simp [h'] at h0 h1; rw [h0] at h1; cases h1
        · simp [Array.getElem?_eq_none h'] at h1
      have hjb : j ≠ b := fun e => by
        subst e
        obtain ⟨x, hx, hb1, hb2⟩ := hbw oj hoj
        exact hnot x hx hb1 hb2
      have h2 := wpOp_putIf (S := S) hoj (hfree j oj hoj hji hjun hnot) (fun cs b => hsel i oi cs b hi) (fun cs b => hsel j oj cs b hoj) hQ hy h1
      have hbl' : (listed.setIfInBounds j true).getD b false = false := by rw [getD_set_ne false hjb]; exact hbl
      have hbl2 : ((listed.setIfInBounds i true).setIfInBounds j true).getD b false = false := by rw [getD_set_ne false hjb, getD_set_ne false hib]; exact hbl
      have hfree' : ∀ k ok, ops[k]? = some ok → k ≠ i → (listed.setIfInBounds j true).getD k true = false →
          (∀ e ∈ ok.after, Region.binds md e = true → e.on ≠ i) → oi.apart ops ok = true := fun k ok hk hki hun hno => by
        refine hfree k ok hk hki ?_ hno
        by_cases hjk : j = k
        · subst hjk; exact hjun
        · rw [getD_set_ne true hjk] at hun; exact hun
      refine wpOp_mono (fun a' w' h3 => ⟨fun _ => h3.2.1 hbl2, ih (listed.setIfInBounds j true) a' w' hbl' hfree' (ready_mono hr (Ne.symm hji)) h3.1 (h3.2.1 hbl2) ?_⟩) h2
      rw [Array.setIfInBounds_comm _ _ hji]
      exact h3.2.2
theorem wpAnyB_pure {i : Nat} {oi : Oper} {v : Value} (hi : ops[i]? = some oi) (hsel : ∀ (j : Nat) (o : Oper) cs b, ops[j]? = some o → o.op ≠ .select cs b)
    (hQ : ∀ c a w, Q (.panic c) (a.put oi.dst v) w → Q (.panic c) a w) (hib : i ≠ b) :
    ∀ (fuel : Nat) (listed : Array Bool) (a : Act) (w : World),
      (∀ j oj, ops[j]? = some oj → j ≠ i → listed.getD j true = false → (∀ e ∈ oj.after, Region.binds md e = true → e.on ≠ i) → oi.apart ops oj = true) →
      i ∈ Region.ready md ops listed → YieldsIf P ops (fun _ => True) oi v a → (listed.getD b false = false → S w) →
      wpAnyB P md ops Q b S fuel (listed.setIfInBounds i true) (a.put oi.dst v) w → wpAnyB P md ops Q b S (fuel + 1) listed a w := by
  intro fuel
  induction fuel with
  | zero =>
    intro listed a w _ hr hy hS H
    refine ⟨fun h => (by rw [h] at hr; cases hr), fun j hj => ?_⟩
    by_cases hji : j = i
    · subst hji; exact hy.wpOp hi trivial ⟨fun h => hS (by rwa [getD_set_ne false hib] at h), H⟩
    · have := ready_mono hj hji
      rw [H.1] at this
      cases this
  | succ fuel ih =>
    intro listed a w hfree hr hy hS H
    refine ⟨fun h => (by rw [h] at hr; cases hr), fun j hj => ?_⟩
    by_cases hji : j = i
    · subst hji; exact hy.wpOp hi trivial ⟨fun h => hS (by rwa [getD_set_ne false hib] at h), H⟩
    · have h1 := H.2 j (ready_mono hj hji)
      obtain ⟨hjun, oj, hoj, hall⟩ := mem_ready.1 hj
      have hnot : ∀ e ∈ oj.after, Region.binds md e = true → e.on ≠ i := fun e he hb heq => by
        have h1 := hall e he hb
        have h0 := (mem_ready.1 hr).1
        rw [heq] at h1
        rcases Nat.lt_or_ge i listed.size with h' | h'
        · simp [h'] at h0 h1; rw [h0] at h1; cases h1
        · simp [Array.getElem?_eq_none h'] at h1
      have h2 := wpOp_putIf (S := fun _ => True) hoj (hfree j oj hoj hji hjun hnot) (fun cs b => hsel i oi cs b hi) (fun cs b => hsel j oj cs b hoj) hQ hy h1
      have hfree' : ∀ k ok, ops[k]? = some ok → k ≠ i → (listed.setIfInBounds j true).getD k true = false →
          (∀ e ∈ ok.after, Region.binds md e = true → e.on ≠ i) → oi.apart ops ok = true := fun k ok hk hki hun hno => by
        refine hfree k ok hk hki ?_ hno
        by_cases hjk : j = k
        · subst hjk; exact hjun
        · rw [getD_set_ne true hjk] at hun; exact hun
      have hbe : ((listed.setIfInBounds i true).setIfInBounds j true).getD b false = (listed.setIfInBounds j true).getD b false := by
        rw [Array.setIfInBounds_comm _ _ (Ne.symm hji), getD_set_ne false hib]
      refine wpOp_mono (fun a' w' h3 => ⟨fun h => h3.2.1 (by rw [hbe]; exact h), ih (listed.setIfInBounds j true) a' w' hfree' (ready_mono hr (Ne.symm hji)) h3.1 (fun h => h3.2.1 (by rw [hbe]; exact h)) ?_⟩) h2
      rw [Array.setIfInBounds_comm _ _ hji]
      exact h3.2.2
end
/-- a plan: which operation comes next, and whether it only computes or reads -/
def waitsB (l : List Oper) (b i : Nat) : Bool := match l.toArray[b]? with
  | some ob => ob.after.any fun e => Region.binds .any e && e.on == i
  | none => true
/-- several that may come up, in any order -/
def manyOk (l : List Oper) : Nat → List Nat → Array Bool → Bool
  | 0, _, _ => true
  | f + 1, R, listed => R.isEmpty || (Region.ready .any l.toArray listed == R && R.all fun m => manyOk l f (R.erase m) (listed.setIfInBounds m true))
def decM : Nat → Nat → List Nat
  | 0, _ => []
  | f + 1, c => if c = 0 then [] else (c % 100 - 1) :: decM f (c / 100)
def planOk (l : List Oper) (b : Nat) : Array Bool → List (Nat × Bool) → Bool
  | listed, [] => (Region.ready .any l.toArray listed).isEmpty
  | listed, (i, true) :: p => if i < 2000 then i != b && !listed.getD b false && waitsB l b i && Region.free .any l.toArray listed i && (Region.ready .any l.toArray listed).contains i && planOk l b (listed.setIfInBounds i true) p
    else i - 2000 != b && Region.free .any l.toArray listed (i - 2000) && (Region.ready .any l.toArray listed).contains (i - 2000) && planOk l b (listed.setIfInBounds (i - 2000) true) p
  | listed, (i, false) :: p => if i < 5000 then Region.ready .any l.toArray listed == [i] && planOk l b (listed.setIfInBounds i true) p
    else if i < 10000 then true
    else if i < 1000000 then Region.ready .any l.toArray listed == [i / 100 % 100, i % 100] && (i / 100 % 100 != i % 100 && (Region.ready .any l.toArray (listed.setIfInBounds (i / 100 % 100) true) == [i % 100] && (Region.ready .any l.toArray (listed.setIfInBounds (i % 100) true) == [i / 100 % 100] && planOk l b ((listed.setIfInBounds (i / 100 % 100) true).setIfInBounds (i % 100) true) p)))
    else manyOk l 20 (decM 20 (i - 1000000)) listed && planOk l b ((decM 20 (i - 1000000)).foldl (fun a m => a.setIfInBounds m true) listed) p
def pl : List (Nat × Bool) → Nat
  | [] => 0
  | (_, true) :: p => pl p + 1
  | (i, false) :: p => if i < 5000 then pl p + 1 else if i < 10000 then i - 5000 else if i < 1000000 then pl p + 2 else pl p + (decM 20 (i - 1000000)).length
def tgK (D : List Nat) (K : Own) : Bool := K.all fun x => D.contains x.1 && (x.2.flat || x.2.cs.all (tg1 D))
theorem St.agree {F : Mem} {ι κ : Nat → Nat} {K : Own} {w : World} {D : List Nat} (h : St F ι K w) (hk : ∀ u ∈ D, κ u = ι u) (ht : tgK D K = true) : St F κ K w := by
  have hrow : ∀ x ∈ K, κ x.1 = ι x.1 ∧ x.2.c κ = x.2.c ι := by
    intro x hx
    have := List.all_eq_true.1 ht x hx
    simp only [Bool.and_eq_true, Bool.or_eq_true] at this
    refine ⟨hk _ (by simpa using this.1), ?_⟩
    rcases this.2 with hf | hf
    · exact Row.c_flat _ _ ((h.own x hx).2.2 hf)
    · unfold Row.c
      rw [List.map_congr_left fun v hv => c1_tg hk (List.all_eq_true.1 hf v hv)]
  have hmap : (K.map fun x => κ x.1) = K.map fun x => ι x.1 := List.map_congr_left fun x hx => (hrow x hx).1
  refine ⟨h.below, by rw [hmap]; exact h.nodup, fun x hx => ?_, h.ext⟩
  obtain ⟨h1, h2⟩ := hrow x hx
  rw [h1, h2]; exact h.own x hx
theorem St.drop {F : Mem} {Y : List (Nat × Row)} {ι : Nat → Nat} {K : Own} {w : World} (h : St (F.add Y) ι K w) : St F ι K w := by
  refine ⟨h.below, ?_, h.own, fun x hx => h.ext x (List.mem_append_right _ hx)⟩
  have := h.nodup
  simp only [Mem.add, List.map_append] at this
  refine this.sublist ?_
  exact (List.Sublist.refl _).append (List.sublist_append_right _ _)
structure JDok (X : Cx) (l : List Oper) (K0 : Own) (D : List Nat) : Prop where
  nop : ∀ c F L K, ¬ X.R (.panic c) F L K
  sel : Region.noSelect l.toArray = true
  sub : (X.D.all fun t => D.contains t) = true
  tgk : tgK D K0 = true
def JD (X : Cx) (l : List Oper) (b : Nat) (F0 : Mem) (K0 : Own) (D : List Nat) (p : List (Nat × Bool)) (listed : Array Bool) (s : List SI) : Pst := fun F L K =>
  planOk l b listed p = true → JDok X l K0 D → ∀ (ι0 ι : Nat → Nat) (a : Act) (w : World), Fr X.N ι L a → St F ι K w → (∀ u ∈ D, ι u = ι0 u) → (listed.getD b false = false → St F0 ι0 K0 w) →
    wpAnyB X.P .any l.toArray (Lft X.N X.D ι0 (sem X s)) b (fun w => St F0 ι0 K0 w) (pl p) listed a w
theorem sem_panic {X : Cx} (h : ∀ c F L K, ¬ X.R (.panic c) F L K) {c : List PanicEntry} {F : Mem} {L : Slots} {K : Own} : ∀ {s : List SI}, ¬ sem X s (.panic c) F L K
  | [] => h c F L K
  | .code _ :: s => sem_panic h (s := s)
  | .blk _ :: s => sem_panic h (s := s)
  | .back _ :: s => sem_panic h (s := s)
section
variable {X : Cx} {F F0 : Mem} {L : Slots} {K K0 : Own} {s : List SI} {l : List Oper} {b : Nat} {D : List Nat} {p : List (Nat × Bool)} {listed : Array Bool}
theorem J.draw {id : Nat} (b : Nat) (D : List Nat) (p : List (Nat × Bool)) (hm : X.P.follows .mixedOrders = true) (hlen : pl p = l.length) (hp : planOk l b (Array.replicate l.length false) p = true) (hok : JDok X l K D)
    (h : JD X l b F K D p (Array.replicate l.length false) s F L K) : J X (.code (.region id l.toArray true) :: s) F L K := by
  intro ι a w hF hS
  refine wp_region_any hm (wpAny_of_B (b := b) (S := fun w => St F ι K w) _ _ _ _ ?_)
  have hS' : St F ι K { w with drawn := w.drawn + 1 } := hS.same rfl rfl rfl rfl
  have := h hp hok ι ι a _ hF hS' (fun _ _ => rfl) (fun _ => hS')
  rw [hlen] at this
  simpa using this
theorem JD.done (h : J X s F L K) : JD X l b F0 K0 D [] listed s F L K := by
  intro hp hok ι0 ι a w hF hS hag _
  refine ⟨by simpa [planOk] using hp, ι, F, L, K, hF, hS, fun t ht => hag t ?_, h⟩
  simpa using List.all_eq_true.1 hok.sub t ht
theorem JD.take_ {i : Nat} {o : Oper} {v : Value} {L' : Slots} (hi2 : i < 2000) (ho : l[i]? = some o) (hy : ∀ (ι0 ι : Nat → Nat) (a : Act), Fr X.N ι L a → (∀ u ∈ D, ι u = ι0 u) → JDok X l K0 D → YieldsIf X.P l.toArray (fun w => St F0 ι0 K0 w) o (cV ι v) a ∧ Fr X.N ι L' (a.put o.dst (cV ι v)))
    (h : JD X l b F0 K0 D p (listed.setIfInBounds i true) s F L' K) : JD X l b F0 K0 D ((i, true) :: p) listed s F L K := by
  intro hp hok ι0 ι a w hF hS hag hS0
  simp only [planOk, hi2, if_true, Bool.and_eq_true, Bool.not_eq_true', bne_iff_ne, ne_eq] at hp
  obtain ⟨⟨⟨⟨⟨h1, h2⟩, h3⟩, h4⟩, h5⟩, h6⟩ := hp
  obtain ⟨y1, y2⟩ := hy ι0 ι a hF hag hok
  have ho' : l.toArray[i]? = some o := by simpa using ho
  refine wpAnyB_first ho' (Region.noSelect_spec hok.sel) (fun c a' w' hq => ?_) h1 (fun ob hob => ?_) (pl p) listed a w h2 (Region.free_spec ho' h4) (by simpa using h5) y1 (hS0 h2) ?_
  · obtain ⟨_, _, _, _, _, _, _, hq⟩ := hq
    exact absurd hq (sem_panic hok.nop)
  · unfold waitsB at h3
    rw [hob] at h3
    obtain ⟨e, he, hb⟩ := Array.any_eq_true'.1 h3
    simp only [Bool.and_eq_true, beq_iff_eq] at hb
    exact ⟨e, he, hb.1, hb.2⟩
  · exact h h6 hok ι0 ι _ w y2 hS hag (fun _ => hS0 h2)
/-- an operation that only computes or reads -/
theorem JD.take {i d : Nat} (hi2 : i < 2000) {o : Oper} {v : Value} (ho : l[i]? = some o) (hg : o.guard = none) (hd : o.dst = some d) (hN : d < X.N) (hv : SD X.P F0 K0 L o.op v)
    (h : JD X l b F0 K0 D p (listed.setIfInBounds i true) s F ((d, v) :: L) K) : JD X l b F0 K0 D ((i, true) :: p) listed s F L K := by
  refine JD.take_ hi2 (v := v) ho (fun ι0 ι a hF hag hok => ⟨.inl ⟨by simp [Region.wanted, hg], fun w hw => hv ι a.eval (fun x u hu => hF.ev hu) o rfl w (hw.agree (fun u hu => hag u hu) hok.tgk)⟩, by rw [hd]; exact hF.put hN v⟩) h
theorem JD.takeG {i d j e : Nat} (hi2 : i < 2000) {want : Bool} {o : Oper} {v : Value} (ho : l[i]? = some o) (hg : o.guard = some (j, want)) (hj : (l[j]?).bind (·.dst) = some e) (hb : L.lookup e = some (.bool want)) (hd : o.dst = some d) (hN : d < X.N) (hv : SD X.P F0 K0 L o.op v)
    (h : JD X l b F0 K0 D p (listed.setIfInBounds i true) s F ((d, v) :: L) K) : JD X l b F0 K0 D ((i, true) :: p) listed s F L K := by
  refine JD.take_ hi2 (v := v) ho (fun ι0 ι a hF hag hok => ⟨.inl ⟨by rw [JL.wanted (ops := l.toArray) hF hg (by simpa using hj) hb]; simp, fun w hw => hv ι a.eval (fun x u hu => hF.ev hu) o rfl w (hw.agree (fun u hu => hag u hu) hok.tgk)⟩, by rw [hd]; exact hF.put hN v⟩) h
theorem JD.pass {i d j e : Nat} (hi2 : i < 2000) {want q : Bool} {o : Oper} (ho : l[i]? = some o) (hg : o.guard = some (j, want)) (hj : (l[j]?).bind (·.dst) = some e) (hb : L.lookup e = some (.bool q)) (hne : (q == want) = false) (hd : o.dst = some d) (hN : d < X.N)
    (h : JD X l b F0 K0 D p (listed.setIfInBounds i true) s F ((d, undef) :: L) K) : JD X l b F0 K0 D ((i, true) :: p) listed s F L K := by
  refine JD.take_ hi2 (v := undef) ho (fun ι0 ι a hF hag hok => ⟨.inr ⟨by rw [JL.wanted (ops := l.toArray) hF hg (by simpa using hj) hb, hne], by simp [undef]⟩, by rw [hd]; exact hF.put hN undef⟩) h
theorem JD.passU {i d j e : Nat} (hi2 : i < 2000) {want : Bool} {o : Oper} (ho : l[i]? = some o) (hg : o.guard = some (j, want)) (hj : (l[j]?).bind (·.dst) = some e) (hb : L.lookup e = some undef) (hd : o.dst = some d) (hN : d < X.N)
    (h : JD X l b F0 K0 D p (listed.setIfInBounds i true) s F ((d, undef) :: L) K) : JD X l b F0 K0 D ((i, true) :: p) listed s F L K := by
  refine JD.take_ hi2 (v := undef) ho (fun ι0 ι a hF hag hok => ⟨.inr ⟨?_, by simp [undef]⟩, by rw [hd]; exact hF.put hN undef⟩) h
  have hs := hF.slot e _ hb
  have hj' : (l.toArray[j]?).bind (·.dst) = some e := by simpa using hj
  simp only [Region.wanted, hg, yielded, hj', Option.bind_some, hs]
  simp [undef]
theorem JD.pure_ {i : Nat} {o : Oper} {v : Value} {L' : Slots} (ho : l[i]? = some o) (hy : ∀ (ι : Nat → Nat) (a : Act), Fr X.N ι L a → YieldsIf X.P l.toArray (fun _ => True) o (cV ι v) a ∧ Fr X.N ι L' (a.put o.dst (cV ι v)))
    (h : JD X l b F0 K0 D p (listed.setIfInBounds i true) s F L' K) : JD X l b F0 K0 D ((i + 2000, true) :: p) listed s F L K := by
  intro hp hok ι0 ι a w hF hS hag hS0
  simp only [planOk, show ¬ i + 2000 < 2000 from by omega, if_false, Nat.add_sub_cancel, Bool.and_eq_true, bne_iff_ne, ne_eq] at hp
  obtain ⟨⟨⟨h1, h4⟩, h5⟩, h6⟩ := hp
  obtain ⟨y1, y2⟩ := hy ι a hF
  have ho' : l.toArray[i]? = some o := by simpa using ho
  refine wpAnyB_pure ho' (Region.noSelect_spec hok.sel) (fun c a' w' hq => ?_) h1 (pl p) listed a w (Region.free_spec ho' h4) (by simpa using h5) y1 hS0 ?_
  · obtain ⟨_, _, _, _, _, _, _, hq⟩ := hq
    exact absurd hq (sem_panic hok.nop)
  · exact h h6 hok ι0 ι _ w y2 hS hag (fun hl => hS0 (by rwa [getD_set_ne false h1] at hl))
theorem St.none (w : World) (ι : Nat → Nat) : St ⟨w, []⟩ ι [] w := ⟨Below.refl _ _, by simp, fun x hx => by simp at hx, fun x hx => by simp at hx⟩
theorem JD.pure {i d : Nat} {o : Oper} {v : Value} (ho : l[i]? = some o) (hg : o.guard = none) (hd : o.dst = some d) (hN : d < X.N) (hv : ∀ F K, SD X.P F K L o.op v)
    (h : JD X l b F0 K0 D p (listed.setIfInBounds i true) s F ((d, v) :: L) K) : JD X l b F0 K0 D ((i + 2000, true) :: p) listed s F L K := by
  refine JD.pure_ (v := v) ho (fun ι a hF => ⟨.inl ⟨by simp [Region.wanted, hg], fun w _ => hv _ _ ι a.eval (fun x u hu => hF.ev hu) o rfl w (St.none w ι)⟩, by rw [hd]; exact hF.put hN v⟩) h
theorem JD.pureG {i d j e : Nat} {want : Bool} {o : Oper} {v : Value} (ho : l[i]? = some o) (hg : o.guard = some (j, want)) (hj : (l[j]?).bind (·.dst) = some e) (hb : L.lookup e = some (.bool want)) (hd : o.dst = some d) (hN : d < X.N) (hv : ∀ F K, SD X.P F K L o.op v)
    (h : JD X l b F0 K0 D p (listed.setIfInBounds i true) s F ((d, v) :: L) K) : JD X l b F0 K0 D ((i + 2000, true) :: p) listed s F L K := by
  refine JD.pure_ (v := v) ho (fun ι a hF => ⟨.inl ⟨by rw [JL.wanted (ops := l.toArray) hF hg (by simpa using hj) hb]; simp, fun w _ => hv _ _ ι a.eval (fun x u hu => hF.ev hu) o rfl w (St.none w ι)⟩, by rw [hd]; exact hF.put hN v⟩) h
theorem JD.passP {i d j e : Nat} {want q : Bool} {o : Oper} (ho : l[i]? = some o) (hg : o.guard = some (j, want)) (hj : (l[j]?).bind (·.dst) = some e) (hb : L.lookup e = some (.bool q)) (hne : (q == want) = false) (hd : o.dst = some d) (hN : d < X.N)
    (h : JD X l b F0 K0 D p (listed.setIfInBounds i true) s F ((d, undef) :: L) K) : JD X l b F0 K0 D ((i + 2000, true) :: p) listed s F L K := by
  refine JD.pure_ (v := undef) ho (fun ι a hF => ⟨.inr ⟨by rw [JL.wanted (ops := l.toArray) hF hg (by simpa using hj) hb, hne], by simp [undef]⟩, by rw [hd]; exact hF.put hN undef⟩) h
theorem JD.passPU {i d j e : Nat} {want : Bool} {o : Oper} (ho : l[i]? = some o) (hg : o.guard = some (j, want)) (hj : (l[j]?).bind (·.dst) = some e) (hb : L.lookup e = some undef) (hd : o.dst = some d) (hN : d < X.N)
    (h : JD X l b F0 K0 D p (listed.setIfInBounds i true) s F ((d, undef) :: L) K) : JD X l b F0 K0 D ((i + 2000, true) :: p) listed s F L K := by
  refine JD.pure_ (v := undef) ho (fun ι a hF => ⟨.inr ⟨?_, by simp [undef]⟩, by rw [hd]; exact hF.put hN undef⟩) h
  have hs := hF.slot e _ hb
  have hj' : (l.toArray[j]?).bind (·.dst) = some e := by simpa using hj
  simp only [Region.wanted, hg, yielded, hj', Option.bind_some, hs]
  simp [undef]
theorem JD.one {i : Nat} {o : Oper} (hi : i < 5000) (ho : l[i]? = some o)
    (h : ∀ (ι0 ι : Nat → Nat) (a : Act) (w : World), Fr X.N ι L a → St F ι K w → (∀ u ∈ D, ι u = ι0 u) → JDok X l K0 D → planOk l b (listed.setIfInBounds i true) p = true →
      wpOp X.P l.toArray (Lft X.N X.D ι0 (sem X s)) i (fun a' w' => ((listed.setIfInBounds i true).getD b false = false → St F0 ι0 K0 w') ∧ wpAnyB X.P .any l.toArray (Lft X.N X.D ι0 (sem X s)) b (fun w => St F0 ι0 K0 w) (pl p) (listed.setIfInBounds i true) a' w') a w) :
    JD X l b F0 K0 D ((i, false) :: p) listed s F L K := by
  intro hp hok ι0 ι a w hF hS hag hS0
  simp only [planOk, hi, if_true, Bool.and_eq_true, beq_iff_eq] at hp
  rw [show pl ((i, false) :: p) = pl p + 1 from by simp [pl, hi]]
  refine ⟨fun h0 => (by rw [hp.1] at h0; cases h0), fun j hj => ?_⟩
  rw [hp.1] at hj
  simp only [List.mem_singleton] at hj
  subst hj
  exact h ι0 ι a w hF hS hag hok hp.2
/-- behind an operation that does something: what the others read is as it was, or they have all come up -/
def Kept (b : Nat) (F0 : Mem) (K0 : Own) (listed : Array Bool) (F : Mem) (K : Own) : Prop := listed.getD b false = true ∨ (KSub K0 K ∧ ∃ Y, F = F0.add Y)
theorem Kept.st {ι0 ι : Nat → Nat} {w : World} (hk : Kept b F0 K0 listed F K) (hS : St F ι K w) (hag : ∀ u ∈ D, ι u = ι0 u) (ht : tgK D K0 = true) (hl : listed.getD b false = false) : St F0 ι0 K0 w := by
  rcases hk with hk | ⟨hk, Y, rfl⟩
  · rw [hk] at hl; cases hl
  · exact (hS.drop.weak hk).agree (fun u hu => (hag u hu).symm) ht
/-- an operation that does something, the only one that may come up -/
theorem JD.op {i : Nat} {o : Oper} (hi : i < 5000) (ho : l[i]? = some o) (hg : o.guard = none) (h : Go1 X.P X.N D F L K o (fun F' L' K' => Kept b F0 K0 (listed.setIfInBounds i true) F' K' ∧ JD X l b F0 K0 D p (listed.setIfInBounds i true) s F' L' K')) : JD X l b F0 K0 D ((i, false) :: p) listed s F L K := by
  refine JD.one hi ho fun ι0 ι a w hF hS hag hok hp => ?_
  obtain ⟨ι1, w1, v, F1, L1, K1, hrun, h1, h2, h3, h4, h5⟩ := h ι a w hF hS
  have hag1 : ∀ u ∈ D, ι1 u = ι0 u := fun u hu => (h3 u hu).trans (hag u hu)
  have ho' : l.toArray[i]? = some o := by simpa using ho
  unfold wpOp
  simp only [ho', Region.wanted, hg, if_true]
  left
  have hk := And.intro (fun hl => h4.st (D := D) h2 hag1 hok.tgk hl) (h5 hp hok ι0 ι1 _ w1 h1 h2 hag1 (fun hl => h4.st h2 hag1 hok.tgk hl))
  simp only [Oper.wp]
  rcases hrun with hr | ⟨hr, rfl⟩
  · rw [hr]; exact hk
  · rw [hr]; exact hk
/-- a guarded operation that is passed by, though it is one that would do something -/
theorem JD.passE {i d j e : Nat} {want q : Bool} {o : Oper} (hi : i < 5000) (ho : l[i]? = some o) (hg : o.guard = some (j, want)) (hj : (l[j]?).bind (·.dst) = some e) (hb : L.lookup e = some (.bool q)) (hne : (q == want) = false) (hd : o.dst = some d) (hN : d < X.N) (hkp : Kept b F0 K0 (listed.setIfInBounds i true) F K)
    (h : JD X l b F0 K0 D p (listed.setIfInBounds i true) s F ((d, undef) :: L) K) : JD X l b F0 K0 D ((i, false) :: p) listed s F L K := by
  refine JD.one hi ho fun ι0 ι a w hF hS hag hok hp => ?_
  have ho' : l.toArray[i]? = some o := by simpa using ho
  unfold wpOp
  simp only [ho']
  rw [if_neg (by rw [JL.wanted (ops := l.toArray) hF hg (by simpa using hj) hb, hne]; simp), hd]
  have := hF.put hN undef
  rw [show cV ι undef = undef from by simp [undef]] at this
  exact ⟨fun hl => hkp.st hS hag hok.tgk hl, h hp hok ι0 ι _ w this hS hag (fun hl => hkp.st hS hag hok.tgk hl)⟩
/-- a call -/
theorem JD.callC_ {i : Nat} {o : Oper} {f d : Nat} {args : Array Operand} {ts : Array TypeId} {vs : List Value} {Q : Value → List (Nat × Row) → Prop} (hi : i < 5000) (ho : l[i]? = some o) (hw : ∀ ι a, Fr X.N ι L a → Region.wanted o (yielded l.toArray a.tmps) = true) (hop : o.op = .call ⟨.value (.func f), args, ts⟩) (hd : o.dst = some d) (hN : d < X.N)
    (hargs : mapE (evO L) args.toList = some vs) (hfn : fnOk X.P f = true) (hkp : Kept b F0 K0 (listed.setIfInBounds i true) F K) (h : ∀ ι, Val ι K F → F.le (push ι K F) → C X.P f (vs.map (rV ι)) (push ι K F) Q)
    (hk : ∀ v Y, Q v Y → (∀ κ, rV κ v = v) → (∀ x ∈ Y, ∀ u ∈ x.2.cs, plain1 u = true) → New F Y → JD X l b F0 K0 D p (listed.setIfInBounds i true) s (F.add Y) ((d, v) :: L) K) : JD X l b F0 K0 D ((i, false) :: p) listed s F L K := by
  refine JD.one hi ho fun ι0 ι a w hF hS hag hok hp => ?_
  have ho' : l.toArray[i]? = some o := by simpa using ho
  unfold wpOp
  simp only [ho', hw ι a hF, if_true]
  left
  simp only [Oper.wp, callee_run (e := evO L) (fun x u hu => hF.ev hu) hop rfl rfl hargs hfn w, Oper.upon]
  have hc := h ι hS.val hS.val.le ι w (hS.push ι)
  rw [map_cV_rV] at hc
  simp only [List.nil_append, List.append_nil]
  refine hc.mono fun e w' ⟨v, Y, h1, h2, h5, h3, h4⟩ => ?_
  subst h1
  have hS' := hS.pull h3
  have hkp' : Kept b F0 K0 (listed.setIfInBounds i true) (F.add Y) K := by
    rcases hkp with hkp | ⟨hkp, Z, rfl⟩
    · exact .inl hkp
    · exact .inr ⟨hkp, Y ++ Z, by simp [Mem.add]⟩
  have hst : (listed.setIfInBounds i true).getD b false = false → St F0 ι0 K0 w' := fun hl => hkp'.st hS' hag hok.tgk hl
  rw [hd]
  have := hF.put hN v
  exact ⟨hst, hk v Y h4 h2 h5 (hS'.new_ h5) hp hok ι0 ι _ w' this hS' hag hst⟩
/-- two that may come up, one or the other first -/
theorem JD.two {i j : Nat} {o o2 : Oper} (hi : i < 100) (hj : j < 100) (ho : l[i]? = some o) (ho2 : l[j]? = some o2) (hg : o.guard = none) (hg2 : o2.guard = none)
    (h : Go1 X.P X.N D F L K o (fun F' L' K' => Kept b F0 K0 (listed.setIfInBounds i true) F' K' ∧ JD X l b F0 K0 D ((j, false) :: p) (listed.setIfInBounds i true) s F' L' K'))
    (h2 : Go1 X.P X.N D F L K o2 (fun F' L' K' => Kept b F0 K0 (listed.setIfInBounds j true) F' K' ∧ JD X l b F0 K0 D ((i, false) :: p) (listed.setIfInBounds j true) s F' L' K')) : JD X l b F0 K0 D ((10000 + 100 * i + j, false) :: p) listed s F L K := by
  intro hp hok ι0 ι a w hF hS hag hS0
  have hbig5 : ¬ (10000 + 100 * i + j < 5000) := by omega
  have hbig : ¬ (10000 + 100 * i + j < 10000) := by omega
  have hbig2 : 10000 + 100 * i + j < 1000000 := by omega
  have e1 : (10000 + 100 * i + j) / 100 % 100 = i := by omega
  have e2 : (10000 + 100 * i + j) % 100 = j := by omega
  simp only [planOk, hbig5, hbig, hbig2, if_true, if_false, e1, e2, Bool.and_eq_true, beq_iff_eq, bne_iff_ne, ne_eq] at hp
  obtain ⟨p1, p2, p3, p4, p5⟩ := hp
  have hp1 : planOk l b (listed.setIfInBounds i true) ((j, false) :: p) = true := by
    simp only [planOk, show j < 5000 from by omega, if_true, p3, beq_self_eq_true, Bool.true_and]; exact p5
  have hp2 : planOk l b (listed.setIfInBounds j true) ((i, false) :: p) = true := by
    simp only [planOk, show i < 5000 from by omega, if_true, p4, beq_self_eq_true, Bool.true_and]
    rw [Array.setIfInBounds_comm _ _ (Ne.symm p2)]; exact p5
  rw [show pl ((10000 + 100 * i + j, false) :: p) = (pl p + 1) + 1 from by simp [pl, hbig5, hbig, hbig2]]
  refine ⟨fun h0 => (by rw [p1] at h0; cases h0), fun k hk => ?_⟩
  rw [p1] at hk
  have key : ∀ (i' : Nat) (o' : Oper) (q : List (Nat × Bool)), l[i']? = some o' → o'.guard = none → planOk l b (listed.setIfInBounds i' true) q = true → pl q = pl p + 1 →
      Go1 X.P X.N D F L K o' (fun F' L' K' => Kept b F0 K0 (listed.setIfInBounds i' true) F' K' ∧ JD X l b F0 K0 D q (listed.setIfInBounds i' true) s F' L' K') →
      wpOp X.P l.toArray (Lft X.N X.D ι0 (sem X s)) i' (fun a' w' => ((listed.setIfInBounds i' true).getD b false = false → St F0 ι0 K0 w') ∧ wpAnyB X.P .any l.toArray (Lft X.N X.D ι0 (sem X s)) b (fun w => St F0 ι0 K0 w) (pl p + 1) (listed.setIfInBounds i' true) a' w') a w := by
    intro i' o' q ho' hg' hq hlen hgo
    obtain ⟨ι1, w1, v, F1, L1, K1, hrun, h1, h2, h3, h4, h5⟩ := hgo ι a w hF hS
    have hag1 : ∀ u ∈ D, ι1 u = ι0 u := fun u hu => (h3 u hu).trans (hag u hu)
    have ho'' : l.toArray[i']? = some o' := by simpa using ho'
    unfold wpOp
    simp only [ho'', Region.wanted, hg', if_true]
    left
    have hk := h5 hq hok ι0 ι1 _ w1 h1 h2 hag1 (fun hl => h4.st h2 hag1 hok.tgk hl)
    rw [hlen] at hk
    have hk := And.intro (fun hl => h4.st (D := D) h2 hag1 hok.tgk hl) hk
    simp only [Oper.wp]
    rcases hrun with hr | ⟨hr, rfl⟩
    · rw [hr]; exact hk
    · rw [hr]; exact hk
  rcases List.mem_cons.1 hk with rfl | hk
  · exact key k o _ ho hg hp1 (by simp [pl, show j < 5000 from by omega]) h
  · simp only [List.mem_singleton] at hk
    subst hk
    exact key k o2 _ ho2 hg2 hp2 (by simp [pl, show i < 5000 from by omega]) h2
theorem JD.weak {L1 : Slots} {K1 : Own} (hL : LSub L1 L) (hK : KSub K1 K) (h : JD X l b F0 K0 D p listed s F L1 K1) : JD X l b F0 K0 D p listed s F L K :=
  fun hp hok ι0 ι a w hF hS hag hS0 => h hp hok ι0 ι a w (hF.weak hL) (hS.weak hK) hag hS0
theorem lookup_map_mem {α : Type} {ms : List Nat} (eD : Nat → Nat) (eV : Nat → α) (hnd : (ms.map eD).Nodup) {m : Nat} (hm : m ∈ ms) (L : List (Nat × α)) : ((ms.map fun x => (eD x, eV x)) ++ L).lookup (eD m) = some (eV m) := by
  induction ms with
  | nil => cases hm
  | cons x ms ih =>
    simp only [List.map_cons, List.nodup_cons] at hnd
    rw [List.map_cons, List.cons_append, List.lookup_cons]
    rcases List.mem_cons.1 hm with rfl | hm
    · simp
    · have : eD m ≠ eD x := fun e => hnd.1 (List.mem_map.2 ⟨m, hm, e⟩)
      have hb : (eD m == eD x) = false := by simpa using this
      simp only [hb]
      exact ih hnd.2 hm
theorem LSub.of_all {L0 L : Slots} (h : ∀ x ∈ L0, L.lookup x.1 = some x.2) : LSub L0 L := by
  induction L0 with
  | nil => trivial
  | cons x L0 ih => exact ⟨h x (List.mem_cons_self ..), ih fun y hy => h y (List.mem_cons_of_mem _ hy)⟩
theorem LSub.all_of {L0 L : Slots} (h : LSub L0 L) : ∀ x ∈ L0, L.lookup x.1 = some x.2 := by
  induction L0 with
  | nil => intro x hx; cases hx
  | cons y L0 ih =>
    intro x hx
    rcases List.mem_cons.1 hx with rfl | hx
    · exact h.1
    · exact ih h.2 x hx
theorem KSub.of_all {K0 K : Own} (hn : (K0.map Prod.fst).Nodup) (h : ∀ x ∈ K0, K.lookup x.1 = some x.2) : KSub K0 K := by
  induction K0 with
  | nil => trivial
  | cons x K0 ih =>
    simp only [List.map_cons, List.nodup_cons] at hn
    refine ⟨h x (List.mem_cons_self ..), ?_, ih hn.2 fun y hy => h y (List.mem_cons_of_mem _ hy)⟩
    rw [List.all_eq_true]
    intro y hy
    simp only [bne_iff_ne, ne_eq]
    exact fun e => hn.1 (List.mem_map.2 ⟨y, hy, e⟩)
/-- several operations that may come up in any order, each of which makes a row of its own -/
theorem JD.many {c : Nat} {ms : List Nat} (eD : Nat → Nat) (eV : Nat → Value) (eR : Nat → Row) {L0 : Slots} (hc : 1000000 ≤ c) (hms : decM 20 (c - 1000000) = ms) (hnd : (ms.map eD).Nodup) (hlen : ms.length ≤ 20)
    (hgo : ∀ m ∈ ms, ∀ C : List Nat, (∀ x ∈ C, x ∈ ms) → m ∉ C → ∃ o, l[m]? = some o ∧ o.guard = none ∧ ∀ T : Pst, T F ((eD m, eV m) :: ((C.map fun x => (eD x, eV x)) ++ L)) ((eD m, eR m) :: (C.map fun x => (eD x, eR x))) → Go1 X.P X.N D F ((C.map fun x => (eD x, eV x)) ++ L) (C.map fun x => (eD x, eR x)) o T)
    (hL0 : LSub L0 L) (hd0 : (L0.all fun x => !(ms.map eD).contains x.1) = true)
    (hk : JD X l b F [] D p (ms.foldl (fun a m => a.setIfInBounds m true) listed) s F ((ms.map fun x => (eD x, eV x)) ++ L0) (ms.map fun x => (eD x, eR x))) :
    JD X l b F [] D ((c, false) :: p) listed s F L [] := by
  intro hp hok ι0 ι a w hF hS hag hS0
  have hbig5 : ¬ (c < 5000) := by omega
  have hbig : ¬ (c < 10000) := by omega
  have hbig2 : ¬ (c < 1000000) := by omega
  simp only [planOk, hbig5, hbig, hbig2, if_false, Bool.and_eq_true, hms] at hp
  obtain ⟨hmo, hp⟩ := hp
  rw [show pl ((c, false) :: p) = pl p + ms.length from by simp [pl, hbig5, hbig, hbig2, hms]]
  have hmsn : ms.Nodup := by
    have : ∀ q : List Nat, (q.map eD).Nodup → q.Nodup := by
      intro q
      induction q with
      | nil => intro _; exact List.nodup_nil
      | cons x q ih =>
        intro h
        simp only [List.map_cons, List.nodup_cons] at h ⊢
        exact ⟨fun hx => h.1 (List.mem_map.2 ⟨x, hx, rfl⟩), ih h.2⟩
    exact this ms hnd
  have main : ∀ n (R C : List Nat) (f : Nat) (listed' : Array Bool) (ι : Nat → Nat) (a : Act) (w : World), R.length = n → n ≤ f → manyOk l f R listed' = true → (R ++ C).Perm ms → R.foldl (fun a m => a.setIfInBounds m true) listed' = ms.foldl (fun a m => a.setIfInBounds m true) listed →
      Fr X.N ι ((C.map fun x => (eD x, eV x)) ++ L) a → St F ι (C.map fun x => (eD x, eR x)) w → (∀ u ∈ D, ι u = ι0 u) → (listed'.getD b false = false → St F ι0 [] w) →
      wpAnyB X.P .any l.toArray (Lft X.N X.D ι0 (sem X s)) b (fun w => St F ι0 [] w) (pl p + n) listed' a w := by
    intro n
    induction n with
    | zero =>
      intro R C f listed' ι a w hR _ _ hperm hls hF hS hag hS0
      have hR0 : R = [] := List.eq_nil_of_length_eq_zero hR
      subst hR0
      simp only [List.nil_append] at hperm
      simp only [List.foldl_nil] at hls
      subst hls
      have hndC : (C.map eD).Nodup := (hperm.map eD).nodup_iff.2 hnd
      have hL1 : LSub ((ms.map fun x => (eD x, eV x)) ++ L0) ((C.map fun x => (eD x, eV x)) ++ L) := by
        refine LSub.of_all fun x hx => ?_
        rcases List.mem_append.1 hx with hx | hx
        · obtain ⟨m, hm, rfl⟩ := List.mem_map.1 hx
          exact lookup_map_mem eD eV hndC (hperm.mem_iff.2 hm) L
        · have h1 := hL0.all_of x hx
          have h2 := List.all_eq_true.1 hd0 x hx
          rw [lookup_append_right]
          · exact h1
          · intro hm
            obtain ⟨y, hy, e⟩ := List.mem_map.1 hm
            obtain ⟨m, hm2, rfl⟩ := List.mem_map.1 hy
            simp only [Bool.not_eq_true', List.contains_eq_mem, decide_eq_false_iff_not] at h2
            exact h2 (List.mem_map.2 ⟨m, hperm.mem_iff.1 hm2, e⟩)
      have hK1 : KSub (ms.map fun x => (eD x, eR x)) (C.map fun x => (eD x, eR x)) := by
        refine KSub.of_all (by simpa [List.map_map, Function.comp_def] using hnd) fun x hx => ?_
        obtain ⟨m, hm, rfl⟩ := List.mem_map.1 hx
        simpa using lookup_map_mem eD eR hndC (hperm.mem_iff.2 hm) []
      exact JD.weak hL1 hK1 hk hp hok ι0 ι a w hF hS hag hS0
    | succ n ih =>
      intro R C f listed' ι a w hR hf hmo hperm hls hF hS hag hS0
      obtain ⟨f, rfl⟩ : ∃ g, f = g + 1 := ⟨f - 1, by omega⟩
      have hRne : R.isEmpty = false := by cases R with | nil => simp at hR | cons x R => rfl
      simp only [manyOk, hRne, Bool.false_or, Bool.and_eq_true, beq_iff_eq] at hmo
      obtain ⟨hrd, hall⟩ := hmo
      have hndRC : (R ++ C).Nodup := hperm.nodup_iff.2 hmsn
      refine ⟨fun h0 => (by rw [hrd] at h0; subst h0; cases hRne), fun k hk2 => ?_⟩
      rw [hrd] at hk2
      have hkms : k ∈ ms := hperm.mem_iff.1 (List.mem_append_left _ hk2)
      have hkC : k ∉ C := fun h => (List.nodup_append.1 hndRC).2.2 k hk2 k h rfl
      obtain ⟨o, ho, hg, hop⟩ := hgo k hkms C (fun x hx => hperm.mem_iff.1 (List.mem_append_right _ hx)) hkC
      have hlen2 : (R.erase k).length = n := by rw [List.length_erase_of_mem hk2]; omega
      have hperm2 : (R.erase k ++ k :: C).Perm ms := by
        refine List.Perm.trans ?_ hperm
        refine List.perm_middle.trans ?_
        exact ((List.perm_cons_erase hk2).symm.append_right C)
      have hls2 : (R.erase k).foldl (fun a m => a.setIfInBounds m true) (listed'.setIfInBounds k true) = ms.foldl (fun a m => a.setIfInBounds m true) listed := by
        rw [← hls]
        have hcm : ∀ (a : Array Bool) (x y : Nat), (a.setIfInBounds x true).setIfInBounds y true = (a.setIfInBounds y true).setIfInBounds x true := fun a x y => by
          by_cases h : x = y
          · subst h; rfl
          · exact Array.setIfInBounds_comm _ _ h
        exact ((List.perm_cons_erase hk2).foldl_eq' (fun x _ y _ z => hcm z x y) listed').symm
      have hgo2 := hop (fun F' L' K' => F' = F ∧ L' = (((k :: C).map fun x => (eD x, eV x)) ++ L) ∧ K' = ((k :: C).map fun x => (eD x, eR x))) ⟨rfl, rfl, rfl⟩
      obtain ⟨ι1, w1, v, F1, L1, K1, hrun, h1, h2, h3, rfl, rfl, rfl⟩ := hgo2 ι a w hF hS
      have hag1 : ∀ u ∈ D, ι1 u = ι0 u := fun u hu => (h3 u hu).trans (hag u hu)
      have ho' : l.toArray[k]? = some o := by simpa using ho
      have hS1 : St F1 ι0 [] w1 := (h2.weak (K0 := []) trivial).agree (fun u hu => (hag1 u hu).symm) hok.tgk
      have hrest := ih (R.erase k) (k :: C) f (listed'.setIfInBounds k true) ι1 _ w1 hlen2 (by omega) (List.all_eq_true.1 hall k hk2) hperm2 hls2 h1 h2 hag1 (fun _ => hS1)
      have hfin := And.intro (fun (_ : (listed'.setIfInBounds k true).getD b false = false) => hS1) hrest
      unfold wpOp
      simp only [ho', Region.wanted, hg, if_true]
      left
      simp only [Oper.wp]
      rcases hrun with hr | ⟨hr, rfl⟩
      · rw [hr]; exact hfin
      · rw [hr]; exact hfin
  exact main ms.length ms [] 20 listed ι a w rfl hlen hmo (by simp) rfl (by simpa using hF) (by simpa using hS) hag hS0
end
end Go.Proofs.Ytnkddjdmpnghmaa.Am
namespace Go.Proofs.Ytnkddjdmpnghmaa.Am
set_option linter.unusedSimpArgs false
set_option linter.unusedVariables false
open Go Go.RowKit
section
variable {X : Cx} {F F0 : Mem} {L : Slots} {K K0 : Own} {s : List SI} {ops : Array Oper} {o : Oper} {l : List Oper}
theorem st {v : Value} {d : Nat} (hk : JL X ops l s F ((d, v) :: L) K)
    (hg : o.guard = none := by rfl) (hd : o.dst = some d := by rfl) (hN : d < X.N := by exact Nat.le_of_ble_eq_true rfl)
    (h : SD X.P F K L o.op v := by first
      | exact SD.addI rfl rfl (by omega) (by omega)
      | exact SD.subI rfl rfl (by omega) (by omega)
      | exact SD.mulI rfl rfl (by omega) (by omega)
      | exact SD.negI rfl (by omega) (by omega)
      | exact SD.idxS hT rfl rfl rfl rfl rfl (by omega) (by omega)
      | exact SD.idxA hT rfl rfl rfl rfl rfl (by omega) (by omega)
      | exact SD.load hT rfl rfl rfl (by first | rfl | assumption)
      | exact SD.loadN hT rfl rfl rfl (by first | rfl | assumption)
      | exact SD.quoI rfl rfl (by omega) (by omega) (by omega)
      | exact SD.remI rfl rfl (by omega) (by omega)
      | exact SD.of hT rfl) : JL X ops (o :: l) s F L K :=
  JL.step hg (Go1.val hd hN h hk)
theorem sg {v : Value} {d j e : Nat} {want : Bool} (hk : JL X ops l s F ((d, v) :: L) K)
    (hg : o.guard = some (j, want) := by rfl) (hj : (ops[j]?).bind (·.dst) = some e := by rfl) (hb : L.lookup e = some (.bool want) := by rfl) (hd : o.dst = some d := by rfl) (hN : d < X.N := by exact Nat.le_of_ble_eq_true rfl)
    (h : SD X.P F K L o.op v := by first
      | exact SD.addI rfl rfl (by omega) (by omega)
      | exact SD.subI rfl rfl (by omega) (by omega)
      | exact SD.mulI rfl rfl (by omega) (by omega)
      | exact SD.negI rfl (by omega) (by omega)
      | exact SD.idxS hT rfl rfl rfl rfl rfl (by omega) (by omega)
      | exact SD.idxA hT rfl rfl rfl rfl rfl (by omega) (by omega)
      | exact SD.load hT rfl rfl rfl (by first | rfl | assumption)
      | exact SD.loadN hT rfl rfl rfl (by first | rfl | assumption)
      | exact SD.quoI rfl rfl (by omega) (by omega) (by omega)
      | exact SD.remI rfl rfl (by omega) (by omega)
      | exact SD.of hT rfl) : JL X ops (o :: l) s F L K :=
  JL.stepG hg hj hb (Go1.val hd hN h hk)
theorem sp {d j e : Nat} {want b : Bool} (hk : JL X ops l s F ((d, undef) :: L) K)
    (hg : o.guard = some (j, want) := by rfl) (hj : (ops[j]?).bind (·.dst) = some e := by rfl) (hb : L.lookup e = some (.bool b) := by rfl) (hne : (b == want) = false := by rfl) (hd : o.dst = some d := by rfl) (hN : d < X.N := by exact Nat.le_of_ble_eq_true rfl) : JL X ops (o :: l) s F L K :=
  JL.pass hg hj hb hne hd hN hk
theorem su {d j e : Nat} {want : Bool} (hk : JL X ops l s F ((d, undef) :: L) K)
    (hg : o.guard = some (j, want) := by rfl) (hj : (ops[j]?).bind (·.dst) = some e := by rfl) (hb : L.lookup e = some undef := by rfl) (hd : o.dst = some d := by rfl) (hN : d < X.N := by exact Nat.le_of_ble_eq_true rfl) : JL X ops (o :: l) s F L K :=
  JL.passU hg hj hb hd hN hk
theorem bx {e : TypeId} {x : Operand} {d : Nat} {v : Value} (hk : JL X ops l s F ((d, .pointer (some ⟨d, 0, some 0⟩)) :: L) ((d, { elem := e, cs := cellsL v, room := (cellsL v).length, flat := false }) :: K))
    (hg : o.guard = none := by rfl) (ho : o.op = .box e x := by rfl) (hd : o.dst = some d := by rfl) (hN : d < X.N := by exact Nat.le_of_ble_eq_true rfl) (hx : evO L x = some v := by rfl) (hv : okV v = true := by rfl)
    (hL : ntL d L = true := by rfl) (hK : ntK d K = true := by rfl) (hD : X.D.contains d = false := by rfl) : JL X ops (o :: l) s F L K := JL.step hg (Go1.box ho hd hN hx hv hL hK hD hk)
theorem al {Θ : Tab} {e : TypeId} {d : Nat} {i : Ty} (hk : JL X ops l s F ((d, .pointer (some ⟨d, 0, some 0⟩)) :: L) ((d, { elem := e, cs := i.zero, room := i.zero.length, flat := false }) :: K))
    (hg : o.guard = none := by rfl) (ho : o.op = .alloc e := by rfl) (hd : o.dst = some d := by rfl) (hN : d < X.N := by exact Nat.le_of_ble_eq_true rfl) (hθ : tabOk X.P Θ = true := by exact hT) (hi : Θ.lookup e = some i := by rfl) (h1 : i.zero.all (·.oneCell') = true := by rfl)
    (hL : ntL d L = true := by rfl) (hK : ntK d K = true := by rfl) (hD : X.D.contains d = false := by rfl) : JL X ops (o :: l) s F L K := JL.step hg (Go1.alloc hθ ho hd hN hi h1 hL hK hD hk)
theorem so {Θ : Tab} {ty : TypeId} {x y : Operand} {t off : Nat} {v : Value} {r : Row} {ti : Ty} (hk : JL X ops l s F L (setK t { r with cs := putL r.cs off (cellsL v), flat := r.flat && (cellsL v).all plain1 } K))
    (hg : o.guard = none := by rfl) (ho : o.op = .store ty x y := by rfl) (hd : o.dst = none := by rfl) (hθ : tabOk X.P Θ = true := by exact hT) (hi : Θ.lookup ty = some ti := by rfl)
    (hx : evO L x = some (.pointer (some ⟨t, off, some 0⟩)) := by rfl) (hy : evO L y = some v := by rfl) (hv : okV v = true := by rfl) (hr : K.lookup t = some r := by rfl) (hsz : (cellsL v).length = ti.size := by rfl) (hle : off + (cellsL v).length ≤ r.cs.length := by first | exact Nat.le_of_ble_eq_true rfl | (simp; omega)) : JL X ops (o :: l) s F L K :=
  JL.step hg (Go1.store hθ ho hd hi hx hy hv hr hsz hle hk)
theorem nl (h : J X s F L K) : JL X ops [] s F L K := JL.nil h
theorem sq {x y : Code} (h : J X (.code x :: .code y :: s) F L K) : J X (.code (.seq x y) :: s) F L K := J.seq h
theorem rg {id : Nat} {l : List Oper} (h : JL X l.toArray l s F L K) : J X (.code (.region id l.toArray false) :: s) F L K := J.reg h
theorem bl {id : Nat} {c : Code} (h : J X (.code c :: .blk id :: s) F L K) : J X (.code (.block id c) :: s) F L K := J.block h
theorem sk (h : J X s F L K) : J X (.code .skip :: s) F L K := J.skip h
theorem bk {id : Nat} (h : J X s F L K) : J X (.blk id :: s) F L K := h
theorem lb {n : Nat} (h : J X s F L K) : J X (.code (.label n) :: s) F L K := J.label h
theorem ex {id : Nat} (h : J X (exitS id s) F L K) (hb : hasB id s = true := by rfl) : J X (.code (.exit id) :: s) F L K := J.exit hb h
theorem cT {c : Operand} {x y : Code} (h : J X (.code x :: s) F L K) (hc : evO L c = some (.bool true) := by rfl) : J X (.code (.cond c x y) :: s) F L K := J.condT hc h
theorem cF {c : Operand} {x y : Code} (h : J X (.code y :: s) F L K) (hc : evO L c = some (.bool false) := by rfl) : J X (.code (.cond c x y) :: s) F L K := J.condF hc h
/-- which of a region that draws come next -/
def pm (p : List Nat) : List (Nat × Bool) := p.map fun i => if i < 1000 then (i, true) else if i < 2000 then (i - 1000, false) else if i < 5000 then (i, true) else (i, false)
variable {b : Nat} {D : List Nat} {p : List (Nat × Bool)} {listed : Array Bool}
theorem dr {id : Nat} {l : List Oper} (b : Nat) (D : List Nat) (p : List Nat) (h : JD X l b F K D (pm p) (Array.replicate l.length false) s F L K) (hm : X.P.follows .mixedOrders = true := by kernel_rfl) (hlen : pl (pm p) = l.length := by kernel_rfl) (hp : planOk l b (Array.replicate l.length false) (pm p) = true := by kernel_rfl)
    (nop : ∀ c F L K, ¬ X.R (.panic c) F L K := by intro _ _ _ _ h; exact h) (sel : Region.noSelect l.toArray = true := by kernel_rfl) (sub : (X.D.all fun t => D.contains t) = true := by rfl) (tgk : tgK D K = true := by rfl) : J X (.code (.region id l.toArray true) :: s) F L K :=
  J.draw b D (pm p) hm hlen hp ⟨nop, sel, sub, tgk⟩ h
theorem dt {i d : Nat} {o : Oper} {v : Value} (h : JD X l b F0 K0 D p (listed.setIfInBounds i true) s F ((d, v) :: L) K) (ho : l[i]? = some o := by rfl) (hg : o.guard = none := by rfl) (hd : o.dst = some d := by rfl) (hN : d < X.N := by exact Nat.le_of_ble_eq_true rfl)
    (hv : SD X.P F0 K0 L o.op v := by first
      | exact SD.addI rfl rfl (by omega) (by omega)
      | exact SD.subI rfl rfl (by omega) (by omega)
      | exact SD.mulI rfl rfl (by omega) (by omega)
      | exact SD.negI rfl (by omega) (by omega)
      | exact SD.idxS hT rfl rfl rfl rfl rfl (by omega) (by omega)
      | exact SD.idxA hT rfl rfl rfl rfl rfl (by omega) (by omega)
      | exact SD.load hT rfl rfl rfl (by first | rfl | assumption)
      | exact SD.loadN hT rfl rfl rfl (by first | rfl | assumption)
      | exact SD.quoI rfl rfl (by omega) (by omega) (by omega)
      | exact SD.remI rfl rfl (by omega) (by omega)
      | exact SD.of hT rfl) (hi2 : i < 2000 := by exact Nat.le_of_ble_eq_true rfl) : JD X l b F0 K0 D ((i, true) :: p) listed s F L K := JD.take hi2 ho hg hd hN hv h
theorem dg {i d j e : Nat} {want : Bool} {o : Oper} {v : Value} (h : JD X l b F0 K0 D p (listed.setIfInBounds i true) s F ((d, v) :: L) K) (ho : l[i]? = some o := by rfl) (hg : o.guard = some (j, want) := by rfl) (hj : (l[j]?).bind (·.dst) = some e := by rfl) (hb : L.lookup e = some (.bool want) := by rfl) (hd : o.dst = some d := by rfl) (hN : d < X.N := by exact Nat.le_of_ble_eq_true rfl)
    (hv : SD X.P F0 K0 L o.op v := by first
      | exact SD.addI rfl rfl (by omega) (by omega)
      | exact SD.subI rfl rfl (by omega) (by omega)
      | exact SD.mulI rfl rfl (by omega) (by omega)
      | exact SD.negI rfl (by omega) (by omega)
      | exact SD.idxS hT rfl rfl rfl rfl rfl (by omega) (by omega)
      | exact SD.idxA hT rfl rfl rfl rfl rfl (by omega) (by omega)
      | exact SD.load hT rfl rfl rfl (by first | rfl | assumption)
      | exact SD.loadN hT rfl rfl rfl (by first | rfl | assumption)
      | exact SD.quoI rfl rfl (by omega) (by omega) (by omega)
      | exact SD.remI rfl rfl (by omega) (by omega)
      | exact SD.of hT rfl) (hi2 : i < 2000 := by exact Nat.le_of_ble_eq_true rfl) : JD X l b F0 K0 D ((i, true) :: p) listed s F L K := JD.takeG hi2 ho hg hj hb hd hN hv h
theorem dp {i d j e : Nat} {want q : Bool} {o : Oper} (h : JD X l b F0 K0 D p (listed.setIfInBounds i true) s F ((d, undef) :: L) K) (ho : l[i]? = some o := by rfl) (hg : o.guard = some (j, want) := by rfl) (hj : (l[j]?).bind (·.dst) = some e := by rfl) (hb : L.lookup e = some (.bool q) := by rfl) (hne : (q == want) = false := by rfl) (hd : o.dst = some d := by rfl) (hN : d < X.N := by exact Nat.le_of_ble_eq_true rfl) (hi2 : i < 2000 := by exact Nat.le_of_ble_eq_true rfl) : JD X l b F0 K0 D ((i, true) :: p) listed s F L K :=
  JD.pass hi2 ho hg hj hb hne hd hN h
theorem du {i d j e : Nat} {want : Bool} {o : Oper} (h : JD X l b F0 K0 D p (listed.setIfInBounds i true) s F ((d, undef) :: L) K) (ho : l[i]? = some o := by rfl) (hg : o.guard = some (j, want) := by rfl) (hj : (l[j]?).bind (·.dst) = some e := by rfl) (hb : L.lookup e = some undef := by rfl) (hd : o.dst = some d := by rfl) (hN : d < X.N := by exact Nat.le_of_ble_eq_true rfl) (hi2 : i < 2000 := by exact Nat.le_of_ble_eq_true rfl) : JD X l b F0 K0 D ((i, true) :: p) listed s F L K :=
  JD.passU hi2 ho hg hj hb hd hN h
theorem dq {i d : Nat} {o : Oper} {v : Value} (h : JD X l b F0 K0 D p (listed.setIfInBounds i true) s F ((d, v) :: L) K) (ho : l[i]? = some o := by rfl) (hg : o.guard = none := by rfl) (hd : o.dst = some d := by rfl) (hN : d < X.N := by exact Nat.le_of_ble_eq_true rfl)
    (hv : ∀ F K, SD X.P F K L o.op v := by
      intro _ _
      first
      | exact SD.addI rfl rfl (by omega) (by omega)
      | exact SD.subI rfl rfl (by omega) (by omega)
      | exact SD.mulI rfl rfl (by omega) (by omega)
      | exact SD.negI rfl (by omega) (by omega)
      | exact SD.idxS hT rfl rfl rfl rfl rfl (by omega) (by omega)
      | exact SD.idxA hT rfl rfl rfl rfl rfl (by omega) (by omega)
      | exact SD.quoI rfl rfl (by omega) (by omega) (by omega)
      | exact SD.remI rfl rfl (by omega) (by omega)
      | exact SD.of hT rfl) : JD X l b F0 K0 D ((i + 2000, true) :: p) listed s F L K := JD.pure ho hg hd hN hv h
theorem dqg {i d j e : Nat} {want : Bool} {o : Oper} {v : Value} (h : JD X l b F0 K0 D p (listed.setIfInBounds i true) s F ((d, v) :: L) K) (ho : l[i]? = some o := by rfl) (hg : o.guard = some (j, want) := by rfl) (hj : (l[j]?).bind (·.dst) = some e := by rfl) (hb : L.lookup e = some (.bool want) := by rfl) (hd : o.dst = some d := by rfl) (hN : d < X.N := by exact Nat.le_of_ble_eq_true rfl)
    (hv : ∀ F K, SD X.P F K L o.op v := by
      intro _ _
      first
      | exact SD.addI rfl rfl (by omega) (by omega)
      | exact SD.subI rfl rfl (by omega) (by omega)
      | exact SD.mulI rfl rfl (by omega) (by omega)
      | exact SD.negI rfl (by omega) (by omega)
      | exact SD.idxS hT rfl rfl rfl rfl rfl (by omega) (by omega)
      | exact SD.idxA hT rfl rfl rfl rfl rfl (by omega) (by omega)
      | exact SD.quoI rfl rfl (by omega) (by omega) (by omega)
      | exact SD.remI rfl rfl (by omega) (by omega)
      | exact SD.of hT rfl) : JD X l b F0 K0 D ((i + 2000, true) :: p) listed s F L K := JD.pureG ho hg hj hb hd hN hv h
theorem dqp {i d j e : Nat} {want q : Bool} {o : Oper} (h : JD X l b F0 K0 D p (listed.setIfInBounds i true) s F ((d, undef) :: L) K) (ho : l[i]? = some o := by rfl) (hg : o.guard = some (j, want) := by rfl) (hj : (l[j]?).bind (·.dst) = some e := by rfl) (hb : L.lookup e = some (.bool q) := by rfl) (hne : (q == want) = false := by rfl) (hd : o.dst = some d := by rfl) (hN : d < X.N := by exact Nat.le_of_ble_eq_true rfl) : JD X l b F0 K0 D ((i + 2000, true) :: p) listed s F L K :=
  JD.passP ho hg hj hb hne hd hN h
theorem dqu {i d j e : Nat} {want : Bool} {o : Oper} (h : JD X l b F0 K0 D p (listed.setIfInBounds i true) s F ((d, undef) :: L) K) (ho : l[i]? = some o := by rfl) (hg : o.guard = some (j, want) := by rfl) (hj : (l[j]?).bind (·.dst) = some e := by rfl) (hb : L.lookup e = some undef := by rfl) (hd : o.dst = some d := by rfl) (hN : d < X.N := by exact Nat.le_of_ble_eq_true rfl) : JD X l b F0 K0 D ((i + 2000, true) :: p) listed s F L K :=
  JD.passPU ho hg hj hb hd hN h
theorem dn (h : J X s F L K) : JD X l b F0 K0 D [] listed s F L K := JD.done h
theorem C.go {P : Program} {Θ : Tab} {f : FuncId} {fn : Func} {c : Code} {args : List Value} {F : Mem} {Q : Value → List (Nat × Row) → Prop} {n : Nat} {rs : List ResultVar} (hT : tabOk P Θ = true) (hf : P.funcs[f]? = some fn) (hn : fn.ntmps = n)
    (h : J ⟨P, n, [], retR Θ rs (outX F Q)⟩ [.code c] F (argL 0 args) []) (hb : fn.body = some c := by rfl) (hrs : fn.results.toList = rs := by rfl) (hl : args.length ≤ n := by exact Nat.le_of_ble_eq_true rfl) : C P f args F Q := C.enter hT hf hb hn hrs hl h
/-- the end: a result without tags -/
theorem rt {Θ : Tab} {rs : List ResultVar} {Q : Value → List (Nat × Row) → Prop} {v : Value} {P : Program} {N : Nat} {D : List Nat} (h : Q v []) (hr : resV Θ F L K rs = some v := by rfl) (hv : ∀ κ, rV κ v = v := by intro κ; first | rfl | (simp; done)) : J ⟨P, N, D, retR Θ rs (outX F Q)⟩ (.code .ret :: s) F L K := J.ret ⟨v, hr, outX.plain hv h⟩
theorem re {Θ : Tab} {rs : List ResultVar} {Q : Value → List (Nat × Row) → Prop} {v : Value} {P : Program} {N : Nat} {D : List Nat} (h : Q v []) (hr : resV Θ F L K rs = some v := by rfl) (hv : ∀ κ, rV κ v = v := by intro κ; first | rfl | (simp; done)) : J ⟨P, N, D, retR Θ rs (outX F Q)⟩ [] F L K := ⟨v, hr, outX.plain hv h⟩
end
end Go.Proofs.Ytnkddjdmpnghmaa.Am
namespace Go.Proofs.Ytnkddjdmpnghmaa.Am
set_option linter.unusedSimpArgs false
set_option linter.unusedVariables false
open Go Go.RowKit
section
variable {X : Cx} {F F0 : Mem} {L : Slots} {K K0 : Own} {s : List SI} {ops : Array Oper} {o : Oper} {l : List Oper}
/-- a guard whose test is open -/
theorem gD {j d : Nat} {want : Bool} {p : Prop} [Decidable p] (ht : p → JL X ops (o :: l) s F ((d, .bool true) :: L) K) (hf : ¬ p → JL X ops (o :: l) s F ((d, .bool false) :: L) K)
    (hg : o.guard = some (j, want) := by rfl) (hj : (ops[j]?).bind (·.dst) = some d := by rfl) (hb : L.lookup d = some (.bool (decide p)) := by rfl) : JL X ops (o :: l) s F L K := JL.caseD hb ht hf
theorem gN {j d : Nat} {want : Bool} {p : Prop} [Decidable p] (ht : ¬ p → JL X ops (o :: l) s F ((d, .bool true) :: L) K) (hf : p → JL X ops (o :: l) s F ((d, .bool false) :: L) K)
    (hg : o.guard = some (j, want) := by rfl) (hj : (ops[j]?).bind (·.dst) = some d := by rfl) (hb : L.lookup d = some (.bool (!decide p)) := by rfl) : JL X ops (o :: l) s F L K := JL.caseN hb ht hf
theorem gB {j d : Nat} {want b : Bool} (ht : b = true → JL X ops (o :: l) s F ((d, .bool true) :: L) K) (hf : b = false → JL X ops (o :: l) s F ((d, .bool false) :: L) K)
    (hg : o.guard = some (j, want) := by rfl) (hj : (ops[j]?).bind (·.dst) = some d := by rfl) (hb : L.lookup d = some (.bool b) := by rfl) : JL X ops (o :: l) s F L K := JL.case hb ht hf
theorem cD {c : Operand} {x y : Code} {p : Prop} [Decidable p] (ht : p → J X (.code x :: s) F L K) (hf : ¬ p → J X (.code y :: s) F L K) (hc : evO L c = some (.bool (decide p)) := by rfl) : J X (.code (.cond c x y) :: s) F L K := J.condD hc ht hf
theorem cN {c : Operand} {x y : Code} {p : Prop} [Decidable p] (ht : ¬ p → J X (.code x :: s) F L K) (hf : p → J X (.code y :: s) F L K) (hc : evO L c = some (.bool (!decide p)) := by rfl) : J X (.code (.cond c x y) :: s) F L K := J.condN hc ht hf
theorem cB {c : Operand} {x y : Code} {b : Bool} (ht : b = true → J X (.code x :: s) F L K) (hf : b = false → J X (.code y :: s) F L K) (hc : evO L c = some (.bool b) := by rfl) : J X (.code (.cond c x y) :: s) F L K := J.cond hc ht hf
abbrev C0 (P : Program) (f : FuncId) (args : List Value) (F : Mem) (v : Value) : Prop := C P f args F fun u Y => u = v ∧ Y = []
theorem cl {f d : Nat} {args : Array Operand} {ts : Array TypeId} {vs : List Value} {v : Value} (hk : JL X ops l s F ((d, v) :: L) K)
    (hg : o.guard = none := by rfl) (ho : o.op = .call ⟨.value (.func f), args, ts⟩ := by rfl) (hd : o.dst = some d := by rfl) (hN : d < X.N := by exact Nat.le_of_ble_eq_true rfl) (hargs : mapE (evO L) args.toList = some vs := by rfl) (hfn : fnOk X.P f = true := by kernel_rfl) (h : ∀ ι, Val ι K F → F.le (push ι K F) → C0 X.P f (vs.map (rV ι)) (push ι K F) v) : JL X ops (o :: l) s F L K :=
  JL.callC hg ho hd hN hargs hfn h (by rintro _ _ ⟨rfl, rfl⟩ _ _ _; exact hk)
theorem clg {f d j e : Nat} {want : Bool} {args : Array Operand} {ts : Array TypeId} {vs : List Value} {v : Value} (hk : JL X ops l s F ((d, v) :: L) K)
    (hg : o.guard = some (j, want) := by rfl) (hj : (ops[j]?).bind (·.dst) = some e := by rfl) (hb : L.lookup e = some (.bool want) := by rfl) (ho : o.op = .call ⟨.value (.func f), args, ts⟩ := by rfl) (hd : o.dst = some d := by rfl) (hN : d < X.N := by exact Nat.le_of_ble_eq_true rfl) (hargs : mapE (evO L) args.toList = some vs := by rfl) (hfn : fnOk X.P f = true := by kernel_rfl) (h : ∀ ι, Val ι K F → F.le (push ι K F) → C0 X.P f (vs.map (rV ι)) (push ι K F) v) : JL X ops (o :: l) s F L K :=
  JL.callCG hg hj hb ho hd hN hargs hfn h (by rintro _ _ ⟨rfl, rfl⟩ _ _ _; exact hk)
variable {b : Nat} {D : List Nat} {p : List (Nat × Bool)} {listed : Array Bool}
/-- what an open guard says, in a region that draws -/
theorem JD.case {d : Nat} {q : Bool} (hb : L.lookup d = some (.bool q)) (ht : q = true → JD X l b F0 K0 D p listed s F ((d, .bool true) :: L) K) (hf : q = false → JD X l b F0 K0 D p listed s F ((d, .bool false) :: L) K) : JD X l b F0 K0 D p listed s F L K := by
  intro hp hok ι0 ι a w hF hS hag hS0
  have aux : ∀ r, q = r → Fr X.N ι ((d, .bool r) :: L) a := fun r e => ⟨hF.size, hF.defers, fun s v hv => by
    rw [List.lookup_cons] at hv
    split at hv
    · rename_i e2
      have e1 : s = d := by simpa using e2
      subst e1
      simp only [Option.some.injEq] at hv
      subst hv
      rw [← e]; exact hF.slot s _ hb
    · exact hF.slot s v hv⟩
  cases hq : q with
  | true => exact ht hq hp hok ι0 ι a w (aux true hq) hS hag hS0
  | false => exact hf hq hp hok ι0 ι a w (aux false hq) hS hag hS0
theorem dgD {i j d : Nat} {want k : Bool} {o : Oper} {q : Prop} [Decidable q] (ht : q → JD X l b F0 K0 D ((i, k) :: p) listed s F ((d, .bool true) :: L) K) (hf : ¬ q → JD X l b F0 K0 D ((i, k) :: p) listed s F ((d, .bool false) :: L) K)
    (ho : l[i]? = some o := by rfl) (hg : o.guard = some (j, want) := by rfl) (hj : (l[j]?).bind (·.dst) = some d := by rfl) (hb : L.lookup d = some (.bool (decide q)) := by rfl) : JD X l b F0 K0 D ((i, k) :: p) listed s F L K :=
  JD.case hb (fun h => ht (of_decide_eq_true h)) (fun h => hf (of_decide_eq_false h))
theorem dgB {i j d : Nat} {want k q : Bool} {o : Oper} (ht : q = true → JD X l b F0 K0 D ((i, k) :: p) listed s F ((d, .bool true) :: L) K) (hf : q = false → JD X l b F0 K0 D ((i, k) :: p) listed s F ((d, .bool false) :: L) K)
    (ho : l[i]? = some o := by rfl) (hg : o.guard = some (j, want) := by rfl) (hj : (l[j]?).bind (·.dst) = some d := by rfl) (hb : L.lookup d = some (.bool q) := by rfl) : JD X l b F0 K0 D ((i, k) :: p) listed s F L K :=
  JD.case hb ht hf
/-- nothing that the others read has turned: rows were added -/
theorem KSub.refl : ∀ {K : Own}, (K.map Prod.fst).Nodup → KSub K K := by
  have aux : ∀ (K0 K1 : Own), ((K1 ++ K0).map Prod.fst).Nodup → KSub K0 (K1 ++ K0) := by
    intro K0
    induction K0 with
    | nil => intro _ _; trivial
    | cons x K0 ih =>
      intro K1 hn
      refine ⟨mem_lookup hn (by simp), ?_, ?_⟩
      · simp only [List.map_append, List.map_cons] at hn
        have := (List.nodup_append.1 hn).2.1
        simp only [List.nodup_cons] at this
        rw [List.all_eq_true]
        intro y hy
        simp only [bne_iff_ne, ne_eq]
        intro e
        exact this.1 (List.mem_map.2 ⟨y, hy, e⟩)
      · have := ih (K1 ++ [x]) (by simpa using hn)
        simpa using this
  intro K hn
  simpa using aux K [] (by simpa using hn)
theorem Kept.same {F0 : Mem} {K0 : Own} (hn : (K0.map Prod.fst).Nodup := by first | exact List.nodup_nil | (simp; done)) : Kept b F0 K0 listed F0 K0 := .inr ⟨KSub.refl hn, [], rfl⟩
theorem Kept.all (h : listed.getD b false = true := by rfl) : Kept b F0 K0 listed F K := .inl h
theorem dcl {i f d : Nat} {o : Oper} {args : Array Operand} {ts : Array TypeId} {vs : List Value} {v : Value} (hk : JD X l b F0 K0 D p (listed.setIfInBounds i true) s F ((d, v) :: L) K)
    (hkp : Kept b F0 K0 (listed.setIfInBounds i true) F K := by first | exact Kept.same | exact Kept.all) (ho : l[i]? = some o := by rfl) (hg : o.guard = none := by rfl) (hop : o.op = .call ⟨.value (.func f), args, ts⟩ := by rfl) (hd : o.dst = some d := by rfl) (hN : d < X.N := by exact Nat.le_of_ble_eq_true rfl) (hargs : mapE (evO L) args.toList = some vs := by rfl) (hfn : fnOk X.P f = true := by kernel_rfl) (hi9 : i < 5000 := by exact Nat.le_of_ble_eq_true rfl) (h : ∀ ι, Val ι K F → F.le (push ι K F) → C0 X.P f (vs.map (rV ι)) (push ι K F) v) : JD X l b F0 K0 D ((i, false) :: p) listed s F L K :=
  JD.callC_ hi9 ho (fun ι a _ => by simp [Region.wanted, hg]) hop hd hN hargs hfn hkp h (by rintro _ _ ⟨rfl, rfl⟩ _ _ _; exact hk)
/-- a guarded operation that would do something, passed by -/
theorem dpe {i d j e : Nat} {want q : Bool} {o : Oper} (h : JD X l b F0 K0 D p (listed.setIfInBounds i true) s F ((d, undef) :: L) K) (hkp : Kept b F0 K0 (listed.setIfInBounds i true) F K := by first | exact Kept.same | exact Kept.all) (ho : l[i]? = some o := by rfl) (hg : o.guard = some (j, want) := by rfl) (hj : (l[j]?).bind (·.dst) = some e := by rfl) (hb : L.lookup e = some (.bool q) := by rfl) (hne : (q == want) = false := by rfl) (hd : o.dst = some d := by rfl) (hN : d < X.N := by exact Nat.le_of_ble_eq_true rfl) (hi9 : i < 5000 := by exact Nat.le_of_ble_eq_true rfl) : JD X l b F0 K0 D ((i, false) :: p) listed s F L K :=
  JD.passE hi9 ho hg hj hb hne hd hN hkp h
/-- stores, boxes and the like, in a region that draws -/
theorem dso {Θ : Tab} {i : Nat} {o : Oper} {ty : TypeId} {x y : Operand} {t off : Nat} {v : Value} {r : Row} {ti : Ty} (hk : JD X l b F0 K0 D p (listed.setIfInBounds i true) s F L (setK t { r with cs := putL r.cs off (cellsL v), flat := r.flat && (cellsL v).all plain1 } K))
    (ho' : l[i]? = some o := by rfl) (hg : o.guard = none := by rfl) (ho : o.op = .store ty x y := by rfl) (hd : o.dst = none := by rfl) (hθ : tabOk X.P Θ = true := by exact hT) (hi : Θ.lookup ty = some ti := by rfl)
    (hx : evO L x = some (.pointer (some ⟨t, off, some 0⟩)) := by rfl) (hy : evO L y = some v := by rfl) (hv : okV v = true := by rfl) (hr : K.lookup t = some r := by rfl) (hsz : (cellsL v).length = ti.size := by rfl) (hle : off + (cellsL v).length ≤ r.cs.length := by first | exact Nat.le_of_ble_eq_true rfl | (simp; omega))
    (hkp : Kept b F0 K0 (listed.setIfInBounds i true) F (setK t { r with cs := putL r.cs off (cellsL v), flat := r.flat && (cellsL v).all plain1 } K) := by first | exact Kept.all | exact Or.inr ⟨by first | exact trivial | exact ⟨rfl, rfl, trivial⟩ | exact ⟨rfl, rfl, rfl, rfl, trivial⟩ | exact ⟨rfl, rfl, rfl, rfl, rfl, rfl, trivial⟩ | exact ⟨rfl, rfl, rfl, rfl, rfl, rfl, rfl, rfl, trivial⟩, [], rfl⟩) (hi9 : i < 5000 := by exact Nat.le_of_ble_eq_true rfl) : JD X l b F0 K0 D ((i, false) :: p) listed s F L K :=
  JD.op hi9 ho' hg (Go1.store hθ ho hd hi hx hy hv hr hsz hle ⟨hkp, hk⟩)
theorem dal {Θ : Tab} {i : Nat} {o : Oper} {e : TypeId} {d : Nat} {ti : Ty} (hk : JD X l b F0 K0 D p (listed.setIfInBounds i true) s F ((d, .pointer (some ⟨d, 0, some 0⟩)) :: L) ((d, { elem := e, cs := ti.zero, room := ti.zero.length, flat := false }) :: K))
    (ho' : l[i]? = some o := by rfl) (hg : o.guard = none := by rfl) (ho : o.op = .alloc e := by rfl) (hd : o.dst = some d := by rfl) (hN : d < X.N := by exact Nat.le_of_ble_eq_true rfl) (hθ : tabOk X.P Θ = true := by exact hT) (hi : Θ.lookup e = some ti := by rfl) (h1 : ti.zero.all (·.oneCell') = true := by rfl)
    (hL : ntL d L = true := by rfl) (hK : ntK d K = true := by rfl) (hD : D.contains d = false := by rfl)
    (hkp : Kept b F0 K0 (listed.setIfInBounds i true) F ((d, { elem := e, cs := ti.zero, room := ti.zero.length, flat := false }) :: K) := by first | exact Kept.all | exact Or.inr ⟨by first | exact trivial | exact ⟨rfl, rfl, trivial⟩ | exact ⟨rfl, rfl, rfl, rfl, trivial⟩ | exact ⟨rfl, rfl, rfl, rfl, rfl, rfl, trivial⟩ | exact ⟨rfl, rfl, rfl, rfl, rfl, rfl, rfl, rfl, trivial⟩, [], rfl⟩) (hi9 : i < 5000 := by exact Nat.le_of_ble_eq_true rfl) : JD X l b F0 K0 D ((i, false) :: p) listed s F L K :=
  JD.op hi9 ho' hg (Go1.alloc hθ ho hd hN hi h1 hL hK hD ⟨hkp, hk⟩)
/-- an operation that reads what the region itself has made -/
theorem dv {i d : Nat} {o : Oper} {v : Value} (h : JD X l b F0 K0 D p (listed.setIfInBounds i true) s F ((d, v) :: L) K) (ho : l[i]? = some o := by rfl) (hg : o.guard = none := by rfl) (hd : o.dst = some d := by rfl) (hN : d < X.N := by exact Nat.le_of_ble_eq_true rfl)
    (hv : SD X.P F K L o.op v := by first
      | exact SD.load hT rfl rfl rfl (by first | rfl | assumption)
      | exact SD.loadN hT rfl rfl rfl (by first | rfl | assumption)
      | exact SD.of hT rfl)
    (hkp : Kept b F0 K0 (listed.setIfInBounds i true) F K := by first | exact Kept.all | exact Or.inr ⟨by first | exact trivial | exact ⟨rfl, rfl, trivial⟩ | exact ⟨rfl, rfl, rfl, rfl, trivial⟩ | exact ⟨rfl, rfl, rfl, rfl, rfl, rfl, trivial⟩ | exact ⟨rfl, rfl, rfl, rfl, rfl, rfl, rfl, rfl, trivial⟩, [], rfl⟩) (hi9 : i < 5000 := by exact Nat.le_of_ble_eq_true rfl) : JD X l b F0 K0 D ((i, false) :: p) listed s F L K :=
  JD.op hi9 ho hg (Go1.val hd hN hv ⟨hkp, h⟩)
theorem mk {Θ : Tab} {ty el : TypeId} {x c : Operand} {d : Nat} {ti tj : Ty} {kl kc : IntKind} {qn qm : Int} (hk : JL X ops l s F ((d, .slice (some ⟨d, 0, some 0⟩) qn.toNat qm.toNat) :: L) ((d, { elem := el, cs := zer tj qn.toNat, room := qm.toNat * tj.size, flat := true }) :: K))
    (hg : o.guard = none := by rfl) (ho : o.op = .makeSlice ty x c := by rfl) (hd : o.dst = some d := by rfl) (hN : d < X.N := by exact Nat.le_of_ble_eq_true rfl) (hθ : tabOk X.P Θ = true := by exact hT) (hi : Θ.lookup ty = some ti := by rfl) (hki : ti.k = .slice el := by rfl) (hj : Θ.lookup el = some tj := by rfl)
    (hl : evO L x = some (.int kl qn) := by rfl) (hc : evO L c = some (.int kc qm) := by rfl) (h0 : 0 ≤ qn := by omega) (hnm : qn ≤ qm := by omega) (hb : qm.toNat * tj.bytes ≤ 281474976710656 := by (first | omega | (simp; omega))) (hm2 : qm ≤ 9223372036854775807 := by omega) (hz0 : tj.zero.length = tj.size := by rfl) (hz1 : 0 < tj.size := by exact Nat.le_of_ble_eq_true rfl)
    (hL : ntL d L = true := by rfl) (hK : ntK d K = true := by rfl) (hD : X.D.contains d = false := by rfl) : JL X ops (o :: l) s F L K :=
  JL.step hg (Go1.make hθ ho hd hN hi hki hj hl hc (by omega) (by omega) (by omega) hb (by omega) hz0 hz1 hL hK hD hk)
theorem dmk {Θ : Tab} {i : Nat} {o : Oper} {ty el : TypeId} {x c : Operand} {d : Nat} {ti tj : Ty} {kl kc : IntKind} {qn qm : Int} (hk : JD X l b F0 K0 D p (listed.setIfInBounds i true) s F ((d, .slice (some ⟨d, 0, some 0⟩) qn.toNat qm.toNat) :: L) ((d, { elem := el, cs := zer tj qn.toNat, room := qm.toNat * tj.size, flat := true }) :: K))
    (ho' : l[i]? = some o := by rfl) (hg : o.guard = none := by rfl) (ho : o.op = .makeSlice ty x c := by rfl) (hd : o.dst = some d := by rfl) (hN : d < X.N := by exact Nat.le_of_ble_eq_true rfl) (hθ : tabOk X.P Θ = true := by exact hT) (hi : Θ.lookup ty = some ti := by rfl) (hki : ti.k = .slice el := by rfl) (hj : Θ.lookup el = some tj := by rfl)
    (hl : evO L x = some (.int kl qn) := by rfl) (hc : evO L c = some (.int kc qm) := by rfl) (h0 : 0 ≤ qn := by omega) (hnm : qn ≤ qm := by omega) (hb : qm.toNat * tj.bytes ≤ 281474976710656 := by (first | omega | (simp; omega))) (hm2 : qm ≤ 9223372036854775807 := by omega) (hz0 : tj.zero.length = tj.size := by rfl) (hz1 : 0 < tj.size := by exact Nat.le_of_ble_eq_true rfl)
    (hL : ntL d L = true := by rfl) (hK : ntK d K = true := by rfl) (hD : D.contains d = false := by rfl)
    (hkp : Kept b F0 K0 (listed.setIfInBounds i true) F ((d, { elem := el, cs := zer tj qn.toNat, room := qm.toNat * tj.size, flat := true }) :: K) := by first | exact Kept.all | exact Or.inr ⟨by first | exact trivial | exact ⟨rfl, rfl, trivial⟩ | exact ⟨rfl, rfl, rfl, rfl, trivial⟩ | exact ⟨rfl, rfl, rfl, rfl, rfl, rfl, trivial⟩ | exact ⟨rfl, rfl, rfl, rfl, rfl, rfl, rfl, rfl, trivial⟩, [], rfl⟩) (hi9 : i < 5000 := by exact Nat.le_of_ble_eq_true rfl) : JD X l b F0 K0 D ((i, false) :: p) listed s F L K :=
  JD.op hi9 ho' hg (Go1.make hθ ho hd hN hi hki hj hl hc (by omega) (by omega) (by omega) hb (by omega) hz0 hz1 hL hK hD ⟨hkp, hk⟩)
/-- a box, in a region that draws -/
theorem dbx {i : Nat} {o : Oper} {e : TypeId} {x : Operand} {d : Nat} {v : Value} (hk : JD X l b F0 K0 D p (listed.setIfInBounds i true) s F ((d, .pointer (some ⟨d, 0, some 0⟩)) :: L) ((d, { elem := e, cs := cellsL v, room := (cellsL v).length, flat := false }) :: K))
    (ho' : l[i]? = some o := by rfl) (hg : o.guard = none := by rfl) (ho : o.op = .box e x := by rfl) (hd : o.dst = some d := by rfl) (hN : d < X.N := by exact Nat.le_of_ble_eq_true rfl) (hx : evO L x = some v := by rfl) (hv : okV v = true := by rfl)
    (hL : ntL d L = true := by rfl) (hK : ntK d K = true := by rfl) (hD : D.contains d = false := by rfl)
    (hkp : Kept b F0 K0 (listed.setIfInBounds i true) F ((d, { elem := e, cs := cellsL v, room := (cellsL v).length, flat := false }) :: K) := by first | exact Kept.all | exact Or.inr ⟨by first | exact trivial | exact ⟨rfl, rfl, trivial⟩ | exact ⟨rfl, rfl, rfl, rfl, trivial⟩, [], rfl⟩) (hi9 : i < 5000 := by exact Nat.le_of_ble_eq_true rfl) : JD X l b F0 K0 D ((i, false) :: p) listed s F L K :=
  JD.op hi9 ho' hg (Go1.box ho hd hN hx hv hL hK hD ⟨hkp, hk⟩)
end
/-- a slice of numbers, told by what stands in it -/
def RInts (F : Mem) (v : Value) (xs : List Int) : Prop :=
  (∃ b off c, v = .slice (some ⟨b, off, none⟩) xs.length c ∧ xs.length ≤ 9223372036854775807 ∧ ∀ i x, xs[i]? = some x → look F ⟨b, off + i, none⟩ = some (.int .i64 x)) ∨ (v = .slice none 0 0 ∧ xs = [])
theorem RInts.le {F F' : Mem} {v : Value} {xs : List Int} (h : RInts F v xs) (hl : F.le F') : RInts F' v xs := by
  rcases h with ⟨b, off, c, h1, h2, h3⟩ | h
  · exact .inl ⟨b, off, c, h1, h2, fun i x hx => hl _ _ (h3 i x hx)⟩
  · exact .inr h
end Go.Proofs.Ytnkddjdmpnghmaa.Am
namespace Go.Proofs.Ytnkddjdmpnghmaa.Am
set_option linter.unusedSimpArgs false
set_option linter.unusedVariables false
open Go Go.RowKit
def gI (T : Nat → Int) (n : Nat) : List Value := (List.range n).map fun k => .int .i64 (T k)
def setI (T : Nat → Int) (i : Nat) (v : Int) : Nat → Int := fun k => if k = i then v else T k
theorem gI_length (T : Nat → Int) (n : Nat) : (gI T n).length = n := by simp [gI]
theorem gI_get {T : Nat → Int} {n i : Nat} (h : i < n) : (gI T n)[i]? = some (.int .i64 (T i)) := by simp [gI, h]
theorem gI_put (T : Nat → Int) (n i : Nat) (v : Int) : putL (gI T n) i [.int .i64 v] = gI (setI T i v) n := by
  simp only [putL]
  apply List.ext_getElem?
  intro k
  by_cases hk : k < n
  · rw [gI_get hk]
    by_cases h : k = i
    · subst h
      rw [List.getElem?_set]
      simp [gI_length, hk, setI]
    · rw [List.getElem?_set]
      simp only [Ne.symm h, if_false, gI_get hk, setI, h]
  · rw [List.getElem?_eq_none (by simp [gI_length]; omega), List.getElem?_eq_none (by simp [gI_length]; omega)]
theorem zer_gI {ti : Ty} (h : ti.zero = [.int .i64 0]) (n : Nat) : zer ti n = gI (fun _ => 0) n := by
  rw [zer_one h]
  simp [gI, List.map_const']
section
variable {P : Program} {N : Nat} {D : List Nat} {Θ : Tab} {F : Mem} {K : Own} {L : Slots} {T : Pst} (hθ : tabOk P Θ = true)
include hθ
theorem SD.loadG {t : TypeId} {x : Operand} {ti : Ty} {b off n : Nat} {G : Nat → Int} {r : Row} (ht : Θ.lookup t = some ti) (hag : aggB ti.k = false) (hx : evO L x = some (.pointer (some ⟨b, off, some 0⟩))) (hr : K.lookup b = some r) (hcs : r.cs = gI G n) (hlt : off < n) : SD P F K L (.load t x) (.int .i64 (G off)) := by
  refine SD.load hθ ht hag hx ?_
  simp only [rdA, hr, Option.bind_some, cellAt, hcs, gI_get hlt]
theorem Go1.storeG {o : Oper} {ty : TypeId} {x y : Operand} {t off n : Nat} {z : Int} {G : Nat → Int} {r : Row} {ti : Ty} (ho : o.op = .store ty x y) (hd : o.dst = none) (hi : Θ.lookup ty = some ti)
    (hx : evO L x = some (.pointer (some ⟨t, off, some 0⟩))) (hy : evO L y = some (.int .i64 z)) (hr : K.lookup t = some r) (hcs : r.cs = gI G n) (hsz : ti.size = 1) (hle : off < n)
    (h : T F L (setK t { r with cs := gI (setI G off z) n } K)) : Go1 P N D F L K o T := by
  refine Go1.store hθ ho hd hi hx hy rfl hr (by rw [hsz]; rfl) (by rw [hcs, gI_length]; exact hle) ?_
  have e : putL r.cs off (cellsL (.int .i64 z)) = gI (setI G off z) n := by rw [hcs]; exact gI_put G n off z
  rw [e]
  have e2 : (r.flat && (cellsL (.int .i64 z)).all plain1) = r.flat := by simp [cellsL, plain1, plain0]
  rw [e2]
  exact h
end
section
variable {X : Cx} {F F0 : Mem} {L : Slots} {K K0 : Own} {s : List SI} {ops : Array Oper} {o : Oper} {l : List Oper} {b : Nat} {D : List Nat} {p : List (Nat × Bool)} {listed : Array Bool} {Θ : Tab}
theorem soG {ty : TypeId} {x y : Operand} {t off n : Nat} {z : Int} {G : Nat → Int} {r : Row} {ti : Ty} (hk : JL X ops l s F L (setK t { r with cs := gI (setI G off z) n } K))
    (hg : o.guard = none := by rfl) (ho : o.op = .store ty x y := by rfl) (hd : o.dst = none := by rfl) (hθ : tabOk X.P Θ = true := by exact hT) (hi : Θ.lookup ty = some ti := by rfl)
    (hx : evO L x = some (.pointer (some ⟨t, off, some 0⟩)) := by rfl) (hy : evO L y = some (.int .i64 z) := by rfl) (hr : K.lookup t = some r := by rfl) (hcs : r.cs = gI G n := by rfl) (hsz : ti.size = 1 := by rfl) (hle : off < n := by (try dsimp only); omega) : JL X ops (o :: l) s F L K :=
  JL.step hg (Go1.storeG hθ ho hd hi hx hy hr hcs hsz hle hk)
theorem dsoG {i : Nat} {o : Oper} {ty : TypeId} {x y : Operand} {t off n : Nat} {z : Int} {G : Nat → Int} {r : Row} {ti : Ty} (hk : JD X l b F0 K0 D p (listed.setIfInBounds i true) s F L (setK t { r with cs := gI (setI G off z) n } K))
    (ho' : l[i]? = some o := by rfl) (hg : o.guard = none := by rfl) (ho : o.op = .store ty x y := by rfl) (hd : o.dst = none := by rfl) (hθ : tabOk X.P Θ = true := by exact hT) (hi : Θ.lookup ty = some ti := by rfl)
    (hx : evO L x = some (.pointer (some ⟨t, off, some 0⟩)) := by rfl) (hy : evO L y = some (.int .i64 z) := by rfl) (hr : K.lookup t = some r := by rfl) (hcs : r.cs = gI G n := by rfl) (hsz : ti.size = 1 := by rfl)
    (hle : off < n := by (try dsimp only); omega) (hkp : (listed.setIfInBounds i true).getD b false = true := by rfl) (hi9 : i < 5000 := by exact Nat.le_of_ble_eq_true rfl) : JD X l b F0 K0 D ((i, false) :: p) listed s F L K :=
  JD.op hi9 ho' hg (Go1.storeG hθ ho hd hi hx hy hr hcs hsz hle ⟨.inl hkp, hk⟩)
/-- several makes of one type and length, in any order -/
theorem dmks {c : Nat} {ms : List Nat} {ty el : TypeId} {ti tj : Ty} {q : Int} (eD : Nat → Nat) {L0 : Slots}
    (hk : JD X l b F [] D p (ms.foldl (fun a m => a.setIfInBounds m true) listed) s F ((ms.map fun x => (eD x, .slice (some ⟨eD x, 0, some 0⟩) q.toNat q.toNat)) ++ L0) (ms.map fun x => (eD x, { elem := el, cs := zer tj q.toNat, room := q.toNat * tj.size, flat := true })))
    (hop : ∀ m ∈ ms, ∃ o tm kl, l[m]? = some o ∧ o.guard = none ∧ o.op = .makeSlice ty (.tmp tm) (.tmp tm) ∧ o.dst = some (eD m) ∧ L.lookup tm = some (.int kl q) ∧ (ms.map eD).contains tm = false)
    (hN : ∀ m ∈ ms, eD m < X.N) (hL : ∀ m ∈ ms, ntL (eD m) L = true) (hD : ∀ m ∈ ms, D.contains (eD m) = false)
    (hL0 : LSub L0 L) (hq : 0 ≤ q) (hq2 : q.toNat * tj.bytes ≤ 281474976710656) (hq3 : q ≤ 9223372036854775807) (hnd : (ms.map eD).Nodup) (hc : 1000000 ≤ c := by exact Nat.le_of_ble_eq_true rfl) (hms : decM 20 (c - 1000000) = ms := by rfl) (hlen : ms.length ≤ 20 := by exact Nat.le_of_ble_eq_true rfl)
    (hd0 : (L0.all fun x => !(ms.map eD).contains x.1) = true := by rfl) (hθ : tabOk X.P Θ = true := by exact hT) (hi : Θ.lookup ty = some ti := by rfl) (hki : ti.k = .slice el := by rfl) (hj : Θ.lookup el = some tj := by rfl) (hz0 : tj.zero.length = tj.size := by rfl) (hz1 : 0 < tj.size := by exact Nat.le_of_ble_eq_true rfl) :
    JD X l b F [] D ((c, false) :: p) listed s F L [] := by
  refine JD.many eD (fun x => .slice (some ⟨eD x, 0, some 0⟩) q.toNat q.toNat) (fun x => { elem := el, cs := zer tj q.toNat, room := q.toNat * tj.size, flat := true }) hc hms hnd hlen ?_ hL0 hd0 hk
  intro m hm C hC hmC
  obtain ⟨o, tm, kl, h1, h2, h3, h4, h5, h6⟩ := hop m hm
  refine ⟨o, h1, h2, fun T hT => ?_⟩
  have hinj : ∀ x ∈ ms, eD x = eD m → x = m := by
    intro x hx he
    have aux : ∀ q : List Nat, (q.map eD).Nodup → x ∈ q → m ∈ q → x = m := by
      intro q
      induction q with
      | nil => intro _ h; cases h
      | cons y q ih =>
        intro hn hx hm
        simp only [List.map_cons, List.nodup_cons] at hn
        rcases List.mem_cons.1 hx with h1 | hx <;> rcases List.mem_cons.1 hm with h2 | hm
        · rw [h1, h2]
        · exact absurd (List.mem_map.2 ⟨m, hm, by rw [← he, h1]⟩) hn.1
        · exact absurd (List.mem_map.2 ⟨x, hx, by rw [he, h2]⟩) hn.1
        · exact ih hn.2 hx hm
    exact aux ms hnd hx hm
  have hne : ∀ x ∈ C, eD x ≠ eD m := fun x hx he => hmC (hinj x (hC x hx) he ▸ hx)
  have hlk : ((C.map fun x => (eD x, (.slice (some ⟨eD x, 0, some 0⟩) q.toNat q.toNat : Value))) ++ L).lookup tm = some (.int kl q) := by
    rw [lookup_append_right]
    · exact h5
    · intro hx
      obtain ⟨y, hy, e⟩ := List.mem_map.1 hx
      obtain ⟨x, hx2, rfl⟩ := List.mem_map.1 hy
      simp only [List.contains_eq_mem, decide_eq_false_iff_not] at h6
      exact h6 (List.mem_map.2 ⟨x, hC x hx2, e⟩)
  refine Go1.make hθ h3 h4 (hN m hm) hi hki hj (l := .tmp tm) (c := .tmp tm) hlk hlk (by omega) (by omega) (Nat.le_refl _) hq2 (by omega) hz0 hz1 ?_ ?_ (hD m hm) hT
  · unfold ntL
    rw [List.all_append, Bool.and_eq_true]
    refine ⟨List.all_eq_true.2 fun x hx => ?_, hL m hm⟩
    obtain ⟨y, hy, rfl⟩ := List.mem_map.1 hx
    simp [ntV, nt2, nt1, nt0, hne y hy]
  · unfold ntK
    refine List.all_eq_true.2 fun x hx => ?_
    obtain ⟨y, hy, rfl⟩ := List.mem_map.1 hx
    simp [hne y hy]
/-- a row of numbers, made by the call itself -/
def rI (T : Nat → Int) (n : Nat) : Row := { elem := 3, cs := gI T n, room := n, flat := true }
/-- several slices of numbers -/
theorem dmksI {c : Nat} {ms : List Nat} {ty : TypeId} {ti tj : Ty} {q : Int} (n : Nat) (eD : Nat → Nat) {L0 : Slots}
    (hk : JD X l b F [] D p (ms.foldl (fun a m => a.setIfInBounds m true) listed) s F ((ms.map fun x => (eD x, .slice (some ⟨eD x, 0, some 0⟩) n n)) ++ L0) (ms.map fun x => (eD x, rI (fun _ => 0) n)))
    (hop : ∀ m ∈ ms, ∃ o tm kl, l[m]? = some o ∧ o.guard = none ∧ o.op = .makeSlice ty (.tmp tm) (.tmp tm) ∧ o.dst = some (eD m) ∧ L.lookup tm = some (.int kl q) ∧ (ms.map eD).contains tm = false)
    (hN : ∀ m ∈ ms, eD m < X.N) (hL : ∀ m ∈ ms, ntL (eD m) L = true) (hD : ∀ m ∈ ms, D.contains (eD m) = false)
    (hL0 : LSub L0 L) (hq : q = n) (hq2 : n * 8 ≤ 281474976710656) (hnd : (ms.map eD).Nodup) (hc : 1000000 ≤ c := by exact Nat.le_of_ble_eq_true rfl) (hms : decM 20 (c - 1000000) = ms := by rfl) (hlen : ms.length ≤ 20 := by exact Nat.le_of_ble_eq_true rfl)
    (hd0 : (L0.all fun x => !(ms.map eD).contains x.1) = true := by rfl) (hθ : tabOk X.P Θ = true := by exact hT) (hi : Θ.lookup ty = some ti := by rfl) (hki : ti.k = .slice 3 := by rfl) (hj : Θ.lookup 3 = some tj := by rfl) (hz : tj.zero = [.int .i64 0] := by rfl) (hz0 : tj.size = 1 := by rfl) (hb8 : tj.bytes = 8 := by rfl) :
    JD X l b F [] D ((c, false) :: p) listed s F L [] := by
  have e : q.toNat = n := by omega
  have e2 : ∀ x, zer tj x = gI (fun _ => 0) x := fun x => zer_gI hz x
  refine dmks (ms := ms) (tj := tj) (q := q) eD (L0 := L0) ?_ hop hN hL hD hL0 (by omega) (by rw [e, hb8]; exact hq2) (by omega) hnd hc hms hlen hd0 hθ hi hki hj (by rw [hz, hz0]; rfl) (by omega)
  rw [e]
  simp only [e2, hz0, Nat.mul_one]
  exact hk
end
end Go.Proofs.Ytnkddjdmpnghmaa.Am
namespace Go.Proofs.Ytnkddjdmpnghmaa.Am
open Go
def Θ : Tab := [
  (1, { k := .func, size := 1, bytes := 8, zero := [.nilFunc] }),
  (2, { k := .int .i64, size := 1, bytes := 8, zero := [.int .i64 0] }),
  (3, { k := .int .i64, size := 1, bytes := 8, zero := [.int .i64 0] }),
  (4, { k := .bool, size := 1, bytes := 1, zero := [.bool false] }),
  (5, { k := .int .u8, size := 1, bytes := 1, zero := [.int .u8 0] }),
  (6, { k := .int .u8, size := 1, bytes := 1, zero := [.int .u8 0] }),
  (7, { k := .struct [(0, 2), (1, 3), (2, 4), (3, 6)], size := 4, bytes := 24, zero := [.int .i64 0, .int .i64 0, .bool false, .int .u8 0] }),
  (8, { k := .struct [(0, 2), (1, 3), (2, 4), (3, 6)], size := 4, bytes := 24, zero := [.int .i64 0, .int .i64 0, .bool false, .int .u8 0] }),
  (9, { k := .string, size := 1, bytes := 16, zero := [.string .empty] }),
  (10, { k := .string, size := 1, bytes := 16, zero := [.string .empty] }),
  (11, { k := .string, size := 1, bytes := 16, zero := [.string .empty] }),
  (12, { k := .int .u64, size := 1, bytes := 8, zero := [.int .u64 0] }),
  (13, { k := .struct [(0, 9), (1, 12)], size := 2, bytes := 24, zero := [.string .empty, .int .u64 0] }),
  (14, { k := .struct [(0, 9), (1, 12)], size := 2, bytes := 24, zero := [.string .empty, .int .u64 0] }),
  (15, { k := .ptr 130, size := 1, bytes := 8, zero := [.pointer none] }),
  (16, { k := .ptr 133, size := 1, bytes := 8, zero := [.pointer none] }),
  (17, { k := .ptr 142, size := 1, bytes := 8, zero := [.pointer none] }),
  (18, { k := .struct [(0, 17)], size := 1, bytes := 8, zero := [.pointer none] }),
  (19, { k := .struct [(0, 17)], size := 1, bytes := 8, zero := [.pointer none] }),
  (20, { k := .iface, size := 1, bytes := 16, zero := [.nilIface] }),
  (21, { k := .int .i32, size := 1, bytes := 4, zero := [.int .i32 0] }),
  (22, { k := .slice 49, size := 1, bytes := 24, zero := [.slice none 0 0] }),
  (23, { k := .slice 3, size := 1, bytes := 24, zero := [.slice none 0 0] }),
  (24, { k := .struct [(0, 22), (1, 23), (2, 3), (3, 3)], size := 4, bytes := 64, zero := [.slice none 0 0, .slice none 0 0, .int .i64 0, .int .i64 0] }),
  (25, { k := .struct [(0, 22), (1, 23), (2, 3), (3, 3)], size := 4, bytes := 64, zero := [.slice none 0 0, .slice none 0 0, .int .i64 0, .int .i64 0] }),
  (26, { k := .func, size := 1, bytes := 8, zero := [.nilFunc] }),
  (27, { k := .func, size := 1, bytes := 8, zero := [.nilFunc] }),
  (28, { k := .func, size := 1, bytes := 8, zero := [.nilFunc] }),
  (29, { k := .slice 47, size := 1, bytes := 24, zero := [.slice none 0 0] }),
  (30, { k := .int .i64, size := 1, bytes := 8, zero := [.int .i64 0] }),
  (32, { k := .func, size := 1, bytes := 8, zero := [.nilFunc] }),
  (34, { k := .func, size := 1, bytes := 8, zero := [.nilFunc] }),
  (35, { k := .func, size := 1, bytes := 8, zero := [.nilFunc] }),
  (36, { k := .func, size := 1, bytes := 8, zero := [.nilFunc] }),
  (37, { k := .func, size := 1, bytes := 8, zero := [.nilFunc] }),
  (38, { k := .struct [(0, 3), (1, 3)], size := 2, bytes := 16, zero := [.int .i64 0, .int .i64 0] }),
  (39, { k := .struct [(0, 3), (1, 3)], size := 2, bytes := 16, zero := [.int .i64 0, .int .i64 0] }),
  (41, { k := .func, size := 1, bytes := 8, zero := [.nilFunc] }),
  (42, { k := .func, size := 1, bytes := 8, zero := [.nilFunc] }),
  (44, { k := .func, size := 1, bytes := 8, zero := [.nilFunc] }),
  (45, { k := .slice 51, size := 1, bytes := 24, zero := [.slice none 0 0] }),
  (46, { k := .struct [(0, 3), (1, 4), (2, 45)], size := 3, bytes := 40, zero := [.int .i64 0, .bool false, .slice none 0 0] }),
  (47, { k := .struct [(0, 3), (1, 4), (2, 45)], size := 3, bytes := 40, zero := [.int .i64 0, .bool false, .slice none 0 0] }),
  (48, { k := .struct [(0, 3), (1, 3), (2, 3), (3, 3), (4, 3), (5, 4), (6, 3), (7, 3), (8, 3), (9, 3), (10, 23)], size := 11, bytes := 104, zero := [.int .i64 0, .int .i64 0, .int .i64 0, .int .i64 0, .int .i64 0, .bool false, .int .i64 0, .int .i64 0, .int .i64 0, .int .i64 0, .slice none 0 0] }),
  (49, { k := .struct [(0, 3), (1, 3), (2, 3), (3, 3), (4, 3), (5, 4), (6, 3), (7, 3), (8, 3), (9, 3), (10, 23)], size := 11, bytes := 104, zero := [.int .i64 0, .int .i64 0, .int .i64 0, .int .i64 0, .int .i64 0, .bool false, .int .i64 0, .int .i64 0, .int .i64 0, .int .i64 0, .slice none 0 0] }),
  (50, { k := .struct [(0, 3), (1, 3), (2, 3), (3, 3), (4, 3), (5, 3), (6, 23)], size := 7, bytes := 72, zero := [.int .i64 0, .int .i64 0, .int .i64 0, .int .i64 0, .int .i64 0, .int .i64 0, .slice none 0 0] }),
  (51, { k := .struct [(0, 3), (1, 3), (2, 3), (3, 3), (4, 3), (5, 3), (6, 23)], size := 7, bytes := 72, zero := [.int .i64 0, .int .i64 0, .int .i64 0, .int .i64 0, .int .i64 0, .int .i64 0, .slice none 0 0] }),
  (52, { k := .struct [(0, 3), (1, 3), (2, 3), (3, 3), (4, 3)], size := 5, bytes := 40, zero := [.int .i64 0, .int .i64 0, .int .i64 0, .int .i64 0, .int .i64 0] }),
  (53, { k := .struct [(0, 3), (1, 3), (2, 3), (3, 3), (4, 3)], size := 5, bytes := 40, zero := [.int .i64 0, .int .i64 0, .int .i64 0, .int .i64 0, .int .i64 0] }),
  (54, { k := .struct [(0, 23), (1, 3), (2, 4)], size := 3, bytes := 40, zero := [.slice none 0 0, .int .i64 0, .bool false] }),
  (55, { k := .struct [(0, 23), (1, 3), (2, 4)], size := 3, bytes := 40, zero := [.slice none 0 0, .int .i64 0, .bool false] }),
  (57, { k := .func, size := 1, bytes := 8, zero := [.nilFunc] }),
  (58, { k := .func, size := 1, bytes := 8, zero := [.nilFunc] }),
  (59, { k := .func, size := 1, bytes := 8, zero := [.nilFunc] }),
  (60, { k := .func, size := 1, bytes := 8, zero := [.nilFunc] }),
  (61, { k := .func, size := 1, bytes := 8, zero := [.nilFunc] }),
  (62, { k := .func, size := 1, bytes := 8, zero := [.nilFunc] }),
  (63, { k := .func, size := 1, bytes := 8, zero := [.nilFunc] }),
  (64, { k := .ptr 72, size := 1, bytes := 8, zero := [.pointer none] }),
  (65, { k := .func, size := 1, bytes := 8, zero := [.nilFunc] }),
  (66, { k := .func, size := 1, bytes := 8, zero := [.nilFunc] }),
  (67, { k := .func, size := 1, bytes := 8, zero := [.nilFunc] }),
  (68, { k := .func, size := 1, bytes := 8, zero := [.nilFunc] }),
  (69, { k := .func, size := 1, bytes := 8, zero := [.nilFunc] }),
  (70, { k := .func, size := 1, bytes := 8, zero := [.nilFunc] }),
  (71, { k := .struct [(0, 22), (1, 49), (12, 23), (13, 3), (14, 4), (15, 3)], size := 16, bytes := 176, zero := [.slice none 0 0, .int .i64 0, .int .i64 0, .int .i64 0, .int .i64 0, .int .i64 0, .bool false, .int .i64 0, .int .i64 0, .int .i64 0, .int .i64 0, .slice none 0 0, .slice none 0 0, .int .i64 0, .bool false, .int .i64 0] }),
  (72, { k := .struct [(0, 22), (1, 49), (12, 23), (13, 3), (14, 4), (15, 3)], size := 16, bytes := 176, zero := [.slice none 0 0, .int .i64 0, .int .i64 0, .int .i64 0, .int .i64 0, .int .i64 0, .bool false, .int .i64 0, .int .i64 0, .int .i64 0, .int .i64 0, .slice none 0 0, .slice none 0 0, .int .i64 0, .bool false, .int .i64 0] }),
  (73, { k := .struct [(0, 3), (1, 3), (2, 3), (3, 3), (4, 3), (5, 4)], size := 6, bytes := 48, zero := [.int .i64 0, .int .i64 0, .int .i64 0, .int .i64 0, .int .i64 0, .bool false] }),
  (74, { k := .struct [(0, 3), (1, 3), (2, 3), (3, 3), (4, 3), (5, 4)], size := 6, bytes := 48, zero := [.int .i64 0, .int .i64 0, .int .i64 0, .int .i64 0, .int .i64 0, .bool false] }),
  (75, { k := .ptr 84, size := 1, bytes := 8, zero := [.pointer none] }),
  (76, { k := .func, size := 1, bytes := 8, zero := [.nilFunc] }),
  (77, { k := .func, size := 1, bytes := 8, zero := [.nilFunc] }),
  (78, { k := .func, size := 1, bytes := 8, zero := [.nilFunc] }),
  (80, { k := .func, size := 1, bytes := 8, zero := [.nilFunc] }),
  (81, { k := .func, size := 1, bytes := 8, zero := [.nilFunc] }),
  (82, { k := .func, size := 1, bytes := 8, zero := [.nilFunc] }),
  (83, { k := .struct [(0, 22), (1, 23), (2, 23), (3, 23), (4, 23), (5, 23)], size := 6, bytes := 144, zero := [.slice none 0 0, .slice none 0 0, .slice none 0 0, .slice none 0 0, .slice none 0 0, .slice none 0 0] }),
  (84, { k := .struct [(0, 22), (1, 23), (2, 23), (3, 23), (4, 23), (5, 23)], size := 6, bytes := 144, zero := [.slice none 0 0, .slice none 0 0, .slice none 0 0, .slice none 0 0, .slice none 0 0, .slice none 0 0] }),
  (85, { k := .func, size := 1, bytes := 8, zero := [.nilFunc] }),
  (86, { k := .func, size := 1, bytes := 8, zero := [.nilFunc] }),
  (87, { k := .func, size := 1, bytes := 8, zero := [.nilFunc] }),
  (88, { k := .func, size := 1, bytes := 8, zero := [.nilFunc] }),
  (89, { k := .func, size := 1, bytes := 8, zero := [.nilFunc] }),
  (90, { k := .func, size := 1, bytes := 8, zero := [.nilFunc] }),
  (91, { k := .func, size := 1, bytes := 8, zero := [.nilFunc] }),
  (92, { k := .slice 96, size := 1, bytes := 24, zero := [.slice none 0 0] }),
  (93, { k := .ptr 96, size := 1, bytes := 8, zero := [.pointer none] }),
  (94, { k := .array 4 3, size := 4, bytes := 32, zero := [.int .i64 0, .int .i64 0, .int .i64 0, .int .i64 0] }),
  (95, { k := .struct [(0, 94), (4, 94)], size := 8, bytes := 64, zero := [.int .i64 0, .int .i64 0, .int .i64 0, .int .i64 0, .int .i64 0, .int .i64 0, .int .i64 0, .int .i64 0] }),
  (96, { k := .struct [(0, 94), (4, 94)], size := 8, bytes := 64, zero := [.int .i64 0, .int .i64 0, .int .i64 0, .int .i64 0, .int .i64 0, .int .i64 0, .int .i64 0, .int .i64 0] }),
  (97, { k := .func, size := 1, bytes := 8, zero := [.nilFunc] }),
  (98, { k := .func, size := 1, bytes := 8, zero := [.nilFunc] }),
  (99, { k := .func, size := 1, bytes := 8, zero := [.nilFunc] }),
  (101, { k := .func, size := 1, bytes := 8, zero := [.nilFunc] }),
  (102, { k := .func, size := 1, bytes := 8, zero := [.nilFunc] }),
  (103, { k := .func, size := 1, bytes := 8, zero := [.nilFunc] }),
  (104, { k := .func, size := 1, bytes := 8, zero := [.nilFunc] }),
  (105, { k := .func, size := 1, bytes := 8, zero := [.nilFunc] }),
  (106, { k := .array 3 3, size := 3, bytes := 24, zero := [.int .i64 0, .int .i64 0, .int .i64 0] }),
  (107, { k := .func, size := 1, bytes := 8, zero := [.nilFunc] }),
  (108, { k := .int .u64, size := 1, bytes := 8, zero := [.int .u64 0] }),
  (109, { k := .func, size := 1, bytes := 8, zero := [.nilFunc] }),
  (110, { k := .int .u64, size := 1, bytes := 8, zero := [.int .u64 0] }),
  (112, { k := .func, size := 1, bytes := 8, zero := [.nilFunc] }),
  (113, { k := .func, size := 1, bytes := 8, zero := [.nilFunc] }),
  (115, { k := .func, size := 1, bytes := 8, zero := [.nilFunc] }),
  (117, { k := .func, size := 1, bytes := 8, zero := [.nilFunc] }),
  (118, { k := .func, size := 1, bytes := 8, zero := [.nilFunc] }),
  (119, { k := .func, size := 1, bytes := 8, zero := [.nilFunc] }),
  (121, { k := .func, size := 1, bytes := 8, zero := [.nilFunc] }),
  (123, { k := .func, size := 1, bytes := 8, zero := [.nilFunc] }),
  (124, { k := .iface, size := 1, bytes := 16, zero := [.nilIface] }),
  (125, { k := .iface, size := 1, bytes := 16, zero := [.nilIface] }),
  (126, { k := .func, size := 1, bytes := 8, zero := [.nilFunc] }),
  (127, { k := .ptr 144, size := 1, bytes := 8, zero := [.pointer none] }),
  (128, { k := .func, size := 1, bytes := 8, zero := [.nilFunc] }),
  (129, { k := .struct [(0, 17), (1, 17), (2, 17), (3, 9)], size := 4, bytes := 40, zero := [.pointer none, .pointer none, .pointer none, .string .empty] }),
  (130, { k := .struct [(0, 17), (1, 17), (2, 17), (3, 9)], size := 4, bytes := 40, zero := [.pointer none, .pointer none, .pointer none, .string .empty] }),
  (131, { k := .array 0 16, size := 0, bytes := 0, zero := [] }),
  (132, { k := .struct [(0, 131)], size := 0, bytes := 0, zero := [] }),
  (133, { k := .struct [(0, 131)], size := 0, bytes := 0, zero := [] }),
  (134, { k := .int .u32, size := 1, bytes := 4, zero := [.int .u32 0] }),
  (135, { k := .int .u8, size := 1, bytes := 1, zero := [.int .u8 0] }),
  (136, { k := .int .u8, size := 1, bytes := 1, zero := [.int .u8 0] }),
  (137, { k := .func, size := 1, bytes := 8, zero := [.nilFunc] }),
  (138, { k := .ptr 5, size := 1, bytes := 8, zero := [.pointer none] }),
  (139, { k := .int .i32, size := 1, bytes := 4, zero := [.int .i32 0] }),
  (140, { k := .int .i32, size := 1, bytes := 4, zero := [.int .i32 0] }),
  (141, { k := .struct [(0, 12), (1, 12), (2, 134), (3, 135), (4, 5), (5, 5), (6, 136), (7, 137), (8, 138), (9, 139), (10, 140)], size := 11, bytes := 48, zero := [.int .u64 0, .int .u64 0, .int .u32 0, .int .u8 0, .int .u8 0, .int .u8 0, .int .u8 0, .nilFunc, .pointer none, .int .i32 0, .int .i32 0] }),
  (142, { k := .struct [(0, 12), (1, 12), (2, 134), (3, 135), (4, 5), (5, 5), (6, 136), (7, 137), (8, 138), (9, 139), (10, 140)], size := 11, bytes := 48, zero := [.int .u64 0, .int .u64 0, .int .u32 0, .int .u8 0, .int .u8 0, .int .u8 0, .int .u8 0, .nilFunc, .pointer none, .int .i32 0, .int .i32 0] }),
  (143, { k := .struct [(0, 9)], size := 1, bytes := 16, zero := [.string .empty] }),
  (144, { k := .struct [(0, 9)], size := 1, bytes := 16, zero := [.string .empty] })
]
set_option maxRecDepth 100000 in
theorem hT : tabOk Try.prog Θ = true := by kernel_rfl
end Go.Proofs.Ytnkddjdmpnghmaa.Am
