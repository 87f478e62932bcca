/- Rules for walking Go functions with memory told by tags (A2). -/
import Derived.Test.YtbeblgjibfoanaaA1
import Derived.Laws.Bits
namespace Go.Proofs.Ytbeblgjibfoanaa.Am
set_option linter.unusedSimpArgs false
set_option linter.unusedVariables false
open Go Go.RowKit
/-! Types, told in a table. -/
inductive TyK where
  | int (k : IntKind) | bool | string | slice (e : TypeId) | ptr (e : TypeId) | struct (fs : List (Nat × TypeId)) | array (n : Nat) (e : TypeId) | map (k e : TypeId) | func | iface | tuple | other
structure Ty where
  k : TyK
  size : Nat
  bytes : Nat
  zero : List Value
abbrev Tab := List (TypeId × Ty)
def kindB : TypeDesc → TyK → Bool
  | .int j, .int k => j == k
  | .bool, .bool | .string, .string | .func _ _ _, .func | .interface _, .iface | .tuple _, .tuple => true
  | .slice e, .slice f => e == f
  | .pointer e, .ptr f => e == f
  | .struct fs, .struct gs => fs.toList.map (fun f => (f.offset, f.type)) == gs
  | .array n e, .array m f => n == m && e == f
  | .map a b, .map c d => a == c && b == d
  | .struct _, .other | .array _ _, .other => false
  | _, .other => true
  | _, _ => false
/-- the cells of simple zero values -/
def veq : Value → Value → Bool
  | .int j a, .int k b => j == k && a == b
  | .bool a, .bool b => a == b
  | .string a, .string b => a.data.toList == b.data.toList
  | .pointer none, .pointer none | .map none, .map none | .nilFunc, .nilFunc | .nilIface, .nilIface => true
  | .slice none n c, .slice none m d => n == m && c == d
  | _, _ => false
theorem veq_eq {u v : Value} (h : veq u v = true) : u = v := by
  cases u <;> cases v <;> first
    | (simp [veq] at h; done)
    | (simp only [veq, Bool.and_eq_true, beq_iff_eq] at h; simp only [h, and_self]; done)
    | (rename_i a b; cases a <;> cases b <;> first | rfl | (simp [veq] at h; done))
    | rfl
    | (rename_i a n c b m d; cases a <;> cases b <;> simp [veq] at h <;> simp [h])
    | (rename_i a b; simp only [veq, beq_iff_eq] at h; obtain ⟨⟨x⟩⟩ := a; obtain ⟨⟨y⟩⟩ := b; simp_all)
    | skip
def veqs : List Value → List Value → Bool
  | [], [] => true
  | u :: us, v :: vs => veq u v && veqs us vs
  | _, _ => false
theorem veqs_eq : ∀ {us vs : List Value}, veqs us vs = true → us = vs
  | [], [], _ => rfl
  | u :: us, v :: vs, h => by
    simp only [veqs, Bool.and_eq_true] at h
    rw [veq_eq h.1, veqs_eq h.2]
  | [], _ :: _, h => by simp [veqs] at h
  | _ :: _, [], h => by simp [veqs] at h
def aggB : TyK → Bool
  | .struct _ | .array _ _ => true
  | _ => false
def zeroB (o : Option Value) (i : Ty) : Bool := match o with
  | some (.agg cs) => aggB i.k && veqs cs.toList i.zero
  | some v => !aggB i.k && veqs [v] i.zero && v.oneCell'
  | none => false
def tyOk1 (P : Program) (t : TypeId) (i : Ty) : Bool :=
  match P.info? t with
  | some inf => match P.underlying t with
    | some d => inf.size == i.size && inf.bytes == i.bytes && zeroB inf.zero i && kindB d i.k
    | none => false
  | none => false
def tabOk (P : Program) (Θ : Tab) : Bool := Θ.all fun x => tyOk1 P x.1 x.2
structure TyOk (P : Program) (t : TypeId) (i : Ty) : Prop where
  info : ∃ inf, P.info? t = some inf ∧ inf.size = i.size ∧ inf.bytes = i.bytes ∧ zeroB inf.zero i = true
  und : ∃ d, P.underlying t = some d ∧ kindB d i.k = true
theorem tyOk_of {P : Program} {t : TypeId} {i : Ty} (h : tyOk1 P t i = true) : TyOk P t i := by
  unfold tyOk1 at h
  cases h1 : P.info? t with
  | none => simp [h1] at h
  | some inf =>
    cases h2 : P.underlying t with
    | none => simp [h1, h2] at h
    | some d =>
      simp only [h1, h2, Bool.and_eq_true, beq_iff_eq] at h
      exact ⟨⟨inf, h1, h.1.1.1, h.1.1.2, h.1.2⟩, d, h2, h.2⟩
theorem tab_ty {P : Program} {Θ : Tab} (h : tabOk P Θ = true) {t : TypeId} {i : Ty} (hi : Θ.lookup t = some i) : TyOk P t i := by
  have := List.all_eq_true.1 h _ (lookup_mem hi)
  exact tyOk_of this
section
variable {P : Program} {t : TypeId} {i : Ty} (h : TyOk P t i) (w : World)
include h
theorem TyOk.run_size : (sizeOf t).run P w = .ok i.size w := by
  obtain ⟨inf, h1, h2, _, _⟩ := h.info
  simp [sizeOf, typeInfo, h1, h2]
theorem TyOk.run_info : ∃ inf, (typeInfo t).run P w = .ok inf w ∧ inf.size = i.size ∧ inf.bytes = i.bytes := by
  obtain ⟨inf, h1, h2, h3, _⟩ := h.info
  exact ⟨inf, by simp [typeInfo, h1], h2, h3⟩
theorem TyOk.run_und : ∃ d, (underlying t).run P w = .ok d w ∧ kindB d i.k = true := by
  obtain ⟨d, h1, h2⟩ := h.und
  exact ⟨d, by simp [underlying, h1], h2⟩
theorem TyOk.run_agg : (isAgg t).run P w = .ok (aggB i.k) w := by
  obtain ⟨d, h1, h2⟩ := h.und
  simp only [isAgg, Sem.run_bind, underlying, run_program, Result.andThen_ok, h1, Sem.run_pure]
  cases hk : i.k <;> rw [hk] at h2 <;> cases d <;> first | rfl | (simp [kindB] at h2; done) | skip
theorem TyOk.run_zero : ∃ z, (zeroValue t).run P w = .ok z w ∧ z.cells.toList = i.zero ∧ (aggB i.k = false → z.oneCell' = true) ∧ (aggB i.k = true → z = .agg i.zero.toArray) := by
  obtain ⟨inf, h1, h2, h3, h4⟩ := h.info
  unfold zeroB at h4
  cases hz : inf.zero with
  | none => simp [hz] at h4
  | some z =>
    refine ⟨z, by simp [zeroValue, typeInfo, h1, hz], ?_⟩
    rw [hz] at h4
    cases z with
    | agg cs =>
      simp only [Bool.and_eq_true] at h4
      have e := veqs_eq h4.2
      refine ⟨e, fun h5 => ?_, fun _ => ?_⟩
      · rw [h4.1] at h5; cases h5
      · rw [← e]
    | _ =>
      simp only [Bool.and_eq_true, Bool.not_eq_true'] at h4
      have e := veqs_eq h4.1.2
      refine ⟨by rw [← e]; rfl, fun _ => h4.2, fun h5 => ?_⟩
      rw [h4.1.1] at h5; cases h5
end

/-! Frames: slots and what is in them. -/
abbrev Slots := List (Nat × Value)
structure Fr (N : Nat) (ι : Nat → Nat) (L : Slots) (a : Act) : Prop where
  size : a.tmps.size = N
  defers : a.defers = []
  slot : ∀ s v, L.lookup s = some v → a.tmps[s]? = some (cV ι v)
def cOk : Value → Bool
  | .int _ _ | .bool _ | .string _ | .float _ _ | .nilFunc | .nilIface | .map _ => true
  | .pointer none | .slice none _ _ => true
  | .tuple vs => vs.size == 0
  | _ => false
def evO (L : Slots) : Operand → Option Value
  | .tmp t => L.lookup t
  | .const v => if cOk v then some v else none
  | .global g => some (.pointer (some ⟨g, 0, none⟩))
  | .func f => some (.func (.func f) #[] #[])
theorem cOk_cV (ι : Nat → Nat) {v : Value} (h : cOk v = true) : cV ι v = v := by
  cases v with
  | pointer a => cases a <;> first | rfl | simp [cOk] at h
  | slice a n c => cases a <;> first | rfl | simp [cOk] at h
  | tuple vs =>
    simp only [cOk, beq_iff_eq] at h
    have : vs = #[] := Array.eq_empty_of_size_eq_zero h
    subst this; simp [cV]
  | _ => first | rfl | simp [cOk] at h
theorem Fr.ev {N : Nat} {ι : Nat → Nat} {L : Slots} {a : Act} (h : Fr N ι L a) {x : Operand} {v : Value} (hv : evO L x = some v) : a.eval x = cV ι v := by
  cases x with
  | tmp t =>
    have := h.slot t v hv
    simp only [Act.eval, Array.getD_eq_getD_getElem?, this, Option.getD_some]
  | const u =>
    simp only [evO] at hv
    split at hv
    · simp only [Option.some.injEq] at hv; subst hv; rw [cOk_cV ι (by assumption)]; rfl
    · simp at hv
  | global g => simp only [evO, Option.some.injEq] at hv; subst hv; rfl
  | func f => simp only [evO, Option.some.injEq] at hv; subst hv; simp [cV, c2, c1, Act.eval]
theorem Fr.put {N : Nat} {ι : Nat → Nat} {L : Slots} {a : Act} (h : Fr N ι L a) {d : Nat} (hd : d < N) (v : Value) : Fr N ι ((d, v) :: L) (a.put (some d) (cV ι v)) := by
  refine ⟨by simp [Act.put, h.size], h.defers, fun s u hu => ?_⟩
  simp only [Act.put]
  rw [List.lookup_cons] at hu
  split at hu
  · rename_i e
    have e1 : s = d := by simpa using e
    subst e1
    simp only [Option.some.injEq] at hu
    subst hu
    rw [Array.getElem?_setIfInBounds]
    simp [h.size, hd]
  · rename_i e
    have e1 : s ≠ d := by simpa using e
    rw [Array.getElem?_setIfInBounds_ne (Ne.symm e1)]
    exact h.slot s u hu
theorem Fr.putNone {N : Nat} {ι : Nat → Nat} {L : Slots} {a : Act} (h : Fr N ι L a) (v : Value) : Fr N ι L (a.put none v) := h

/-! Operations that only compute. -/
def dBin (op : BinOp) (x y : Value) : Option Value :=
  match op, x, y with
  | .add, .int k a, .int j b => if k = j then some (.int k (k.wrap (a + b))) else none
  | .sub, .int k a, .int j b => if k = j then some (.int k (k.wrap (a - b))) else none
  | .mul, .int k a, .int j b => if k = j then some (.int k (k.wrap (a * b))) else none
  | .eql, .int k a, .int j b => if k = j then some (.bool (decide (a = b))) else none
  | .neq, .int k a, .int j b => if k = j then some (.bool (!decide (a = b))) else none
  | .lss, .int k a, .int j b => if k = j then some (.bool (decide (a < b))) else none
  | .leq, .int k a, .int j b => if k = j then some (.bool (decide (a ≤ b))) else none
  | .gtr, .int k a, .int j b => if k = j then some (.bool (decide (b < a))) else none
  | .geq, .int k a, .int j b => if k = j then some (.bool (decide (b ≤ a))) else none
  | .eql, .string a, .string b => some (.bool (a.data.toList == b.data.toList))
  | .neq, .string a, .string b => some (.bool (!(a.data.toList == b.data.toList)))
  | .and, .int k a, .int j b => if k = j then some (.int k (k.wrap (BitVec.ofInt k.bits a &&& BitVec.ofInt k.bits b).toNat)) else none
  | .or, .int k a, .int j b => if k = j then some (.int k (k.wrap (BitVec.ofInt k.bits a ||| BitVec.ofInt k.bits b).toNat)) else none
  | _, _, _ => none
end Go.Proofs.Ytbeblgjibfoanaa.Am
