/- Rules for walking Go functions with memory told by tags (A7). -/
import Derived.Test.YtbeblgjibfoanaaA6
import Derived.IntWalk
namespace Go.Proofs.Ytbeblgjibfoanaa.Am
set_option linter.unusedSimpArgs false
set_option linter.unusedVariables false
open Go Go.RowKit
/-- The operation leaves v in every world that is told so, whatever blocks the tags stand for. -/
def SD (P : Program) (F : Mem) (K : Own) (L : Slots) (o : Op) (v : Value) : Prop :=
  ∀ (ι : Nat → Nat) (ρ : Operand → Value), (∀ x u, evO L x = some u → ρ x = cV ι u) → ∀ (o' : Oper), o'.op = o → ∀ w, St F ι K w → (execOp ρ o').run P w = .ok (.value (cV ι v)) w
theorem wrap_i64 {x : Int} (h0 : -9223372036854775808 ≤ x) (h1 : x < 9223372036854775808) : IntKind.i64.wrap x = x := by
  exact Go.IntWalk.i64_in _ ⟨by omega, by omega⟩
theorem wrap_u8 {x : Int} (h0 : 0 ≤ x) (h1 : x < 256) : IntKind.u8.wrap x = x := by
  simp only [IntKind.wrap, IntKind.bits, IntKind.signed, Bool.false_and, Bool.false_eq_true, if_false]
  omega
section
variable {P : Program} {Θ : Tab} {F : Mem} {K : Own} {L : Slots} (hT : tabOk P Θ = true)
include hT
theorem SD.of {o : Op} {v : Value} (h : dOp Θ (evO L) o = some v) : SD P F K L o v := fun ι ρ he o' ho w _ => dOp_run hT he h o' ho w
omit hT in
theorem SD.cast {o : Op} {v v' : Value} (h : SD P F K L o v) (e : v = v') : SD P F K L o v' := e ▸ h
omit hT in
theorem SD.addI {t t' : TypeId} {x y : Operand} {a b : Int} (hx : evO L x = some (.int .i64 a)) (hy : evO L y = some (.int .i64 b)) (h0 : -9223372036854775808 ≤ a + b) (h1 : a + b < 9223372036854775808) : SD P F K L (.binOp .add t x y t') (.int .i64 (a + b)) := by
  intro ι ρ he o' ho w _
  have := Yl.bin (P := P) (t := t) (t' := t') (he _ _ hx) (he _ _ hy) (r := .int .i64 (IntKind.i64.wrap (a + b))) (o := .add) (by simp [dBin]) o' ho w
  rw [wrap_i64 h0 h1] at this
  exact this
omit hT in
theorem SD.subI {t t' : TypeId} {x y : Operand} {a b : Int} (hx : evO L x = some (.int .i64 a)) (hy : evO L y = some (.int .i64 b)) (h0 : -9223372036854775808 ≤ a - b) (h1 : a - b < 9223372036854775808) : SD P F K L (.binOp .sub t x y t') (.int .i64 (a - b)) := by
  intro ι ρ he o' ho w _
  have := Yl.bin (P := P) (t := t) (t' := t') (he _ _ hx) (he _ _ hy) (r := .int .i64 (IntKind.i64.wrap (a - b))) (o := .sub) (by simp [dBin]) o' ho w
  rw [wrap_i64 h0 h1] at this
  exact this
omit hT in
theorem SD.mulI {t t' : TypeId} {x y : Operand} {a b : Int} (hx : evO L x = some (.int .i64 a)) (hy : evO L y = some (.int .i64 b)) (h0 : -9223372036854775808 ≤ a * b) (h1 : a * b < 9223372036854775808) : SD P F K L (.binOp .mul t x y t') (.int .i64 (a * b)) := by
  intro ι ρ he o' ho w _
  have := Yl.bin (P := P) (t := t) (t' := t') (he _ _ hx) (he _ _ hy) (r := .int .i64 (IntKind.i64.wrap (a * b))) (o := .mul) (by simp [dBin]) o' ho w
  rw [wrap_i64 h0 h1] at this
  exact this
omit hT in
theorem SD.negI {t : TypeId} {x : Operand} {a : Int} (hx : evO L x = some (.int .i64 a)) (h0 : -9223372036854775808 ≤ -a) (h1 : -a < 9223372036854775808) : SD P F K L (.unOp .neg t x) (.int .i64 (-a)) := by
  intro ι ρ he o' ho w _
  obtain ⟨dst, op, type, pos, after, guard⟩ := o'
  simp only at ho
  subst ho
  simp [execOp, he _ _ hx, Op.unary, Op.intArith, wrap_i64 h0 h1]
omit hT in
theorem SD.quoI {t t' : TypeId} {x y : Operand} {a b : Int} (hx : evO L x = some (.int .i64 a)) (hy : evO L y = some (.int .i64 b)) (ha : 0 ≤ a) (ha2 : a < 9223372036854775808) (hb : 0 < b) : SD P F K L (.binOp .quo t x y t') (.int .i64 (a / b)) := by
  intro ι ρ he o' ho w _
  obtain ⟨dst, op, type, pos, after, guard⟩ := o'
  simp only at ho
  subst ho
  have e1 : IntKind.i64.wrap (a.tdiv b) = a / b := by
    rw [Int.tdiv_eq_ediv_of_nonneg ha]
    have h1 := Int.ediv_nonneg ha (Int.le_of_lt hb)
    have h2 := Int.ediv_le_self b ha
    exact wrap_i64 (by omega) (by omega)
  have hb0 : b ≠ 0 := by omega
  simp [execOp, he _ _ hx, he _ _ hy, binOp, eqGuard, Op.intDiv, hb0, e1]
omit hT in
theorem SD.remI {t t' : TypeId} {x y : Operand} {a b : Int} (hx : evO L x = some (.int .i64 a)) (hy : evO L y = some (.int .i64 b)) (ha : 0 ≤ a) (hb : 0 < b) : SD P F K L (.binOp .rem t x y t') (.int .i64 (a % b)) := by
  intro ι ρ he o' ho w _
  obtain ⟨dst, op, type, pos, after, guard⟩ := o'
  simp only at ho
  subst ho
  have hb0 : b ≠ 0 := by omega
  simp [execOp, he _ _ hx, he _ _ hy, binOp, eqGuard, Op.intDiv, hb0, Int.tmod_eq_emod_of_nonneg ha]
omit hT in
theorem SD.shlK {t t' : TypeId} {x y : Operand} {k j : IntKind} {a b : Int} (hx : evO L x = some (.int k a)) (hy : evO L y = some (.int j b)) (hb : 0 ≤ b) : SD P F K L (.binOp .shl t x y t') (.int k (k.wrap (a * 2 ^ (min b.toNat k.bits)))) := by
  intro ι ρ he o' ho w _
  obtain ⟨dst, op, type, pos, after, guard⟩ := o'
  simp only at ho
  subst ho
  have : ¬ b < 0 := by omega
  simp [execOp, he _ _ hx, he _ _ hy, binOp, eqGuard, Op.shift, this]
omit hT in
theorem SD.shrK {t t' : TypeId} {x y : Operand} {k j : IntKind} {a b : Int} (hx : evO L x = some (.int k a)) (hy : evO L y = some (.int j b)) (hb : 0 ≤ b) : SD P F K L (.binOp .shr t x y t') (.int k (a.fdiv (2 ^ (min b.toNat k.bits)))) := by
  intro ι ρ he o' ho w _
  obtain ⟨dst, op, type, pos, after, guard⟩ := o'
  simp only at ho
  subst ho
  have : ¬ b < 0 := by omega
  simp [execOp, he _ _ hx, he _ _ hy, binOp, eqGuard, Op.shift, this]
/-- elements of slices, arrays in memory, strings -/
theorem SD.idxS {t el : TypeId} {x i : Operand} {a : Addr} {n c : Nat} {k : IntKind} {q : Int} {ti tj : Ty} (ht : Θ.lookup t = some ti) (hk : ti.k = .slice el) (hj : Θ.lookup el = some tj)
    (hx : evO L x = some (.slice (some a) n c)) (hi : evO L i = some (.int k q)) (h0 : 0 ≤ q) (h1 : q < n) : SD P F K L (.indexAddr t x i) (.pointer (some (addA a (q.toNat * tj.size)))) := by
  intro ι ρ he o' ho w _
  obtain ⟨dst, op, type, pos, after, guard⟩ := o'
  simp only at ho
  subst ho
  obtain ⟨d, hd, hkd⟩ := (tab_ty hT ht).und
  rw [hk] at hkd
  cases d <;> try (simp [kindB] at hkd; done)
  simp only [kindB, beq_iff_eq] at hkd
  subst hkd
  simp [execOp, he _ _ hx, he _ _ hi, Instr.indexAt, asIntOf, run_underlying hd, h0, h1, (tab_ty hT hj).run_size, cA_addA]
theorem SD.idxA {t el : TypeId} {x i : Operand} {a : Addr} {n : Nat} {k : IntKind} {q : Int} {ti tj : Ty} (ht : Θ.lookup t = some ti) (hk : ti.k = .array n el) (hj : Θ.lookup el = some tj)
    (hx : evO L x = some (.pointer (some a))) (hi : evO L i = some (.int k q)) (h0 : 0 ≤ q) (h1 : q < n) : SD P F K L (.indexAddr t x i) (.pointer (some (addA a (q.toNat * tj.size)))) := by
  intro ι ρ he o' ho w _
  obtain ⟨dst, op, type, pos, after, guard⟩ := o'
  simp only at ho
  subst ho
  obtain ⟨d, hd, hkd⟩ := (tab_ty hT ht).und
  rw [hk] at hkd
  cases d <;> try (simp [kindB] at hkd; done)
  simp only [kindB, Bool.and_eq_true, beq_iff_eq] at hkd
  obtain ⟨rfl, rfl⟩ := hkd
  simp [execOp, he _ _ hx, he _ _ hi, Instr.indexAt, Instr.sureAddr, asIntOf, run_underlying hd, h0, h1, (tab_ty hT hj).run_size, cA_addA]
def byteAt (s : ByteArray) (i : Nat) : Int := ((s.data.toList.getD i 0).toNat : Int)
theorem SD.idxStr {t : TypeId} {x i : Operand} {s : ByteArray} {k : IntKind} {q : Int} {ti : Ty} (ht : Θ.lookup t = some ti) (hk : ti.k = .string)
    (hx : evO L x = some (.string s)) (hi : evO L i = some (.int k q)) (h0 : 0 ≤ q) (h1 : q < s.size) : SD P F K L (.index t x i) (.int .u8 (byteAt s q.toNat)) := by
  intro ι ρ he o' ho w _
  obtain ⟨dst, op, type, pos, after, guard⟩ := o'
  simp only at ho
  subst ho
  obtain ⟨d, hd, hkd⟩ := (tab_ty hT ht).und
  rw [hk] at hkd
  cases d <;> try (simp [kindB] at hkd; done)
  have hlt : q.toNat < s.size := by omega
  have e1 : s[q.toNat]? = some (s.data.toList.getD q.toNat 0) := by
    rw [getElem?_pos s q.toNat hlt]
    have : q.toNat < s.data.toList.length := by simpa using hlt
    simp [List.getD_eq_getElem?_getD, List.getElem?_eq_getElem this]
    rfl
  simp [execOp, he _ _ hx, he _ _ hi, Instr.index, asIntOf, run_underlying hd, h0, e1, byteAt]
theorem SD.idxAgg {t el : TypeId} {x i : Operand} {cs : Array Value} {n : Nat} {k : IntKind} {q : Int} {ti tj : Ty} {v : Value} (ht : Θ.lookup t = some ti) (hk : ti.k = .array n el) (hj : Θ.lookup el = some tj) (hag : aggB tj.k = false)
    (hx : evO L x = some (.agg cs)) (hi : evO L i = some (.int k q)) (h0 : 0 ≤ q) (h1 : q < n) (hv : cs.toList[q.toNat * tj.size]? = some v) (h1v : v.oneCell' = true) : SD P F K L (.index t x i) v := by
  intro ι ρ he o' ho w _
  obtain ⟨dst, op, type, pos, after, guard⟩ := o'
  simp only at ho
  subst ho
  obtain ⟨d, hd, hkd⟩ := (tab_ty hT ht).und
  rw [hk] at hkd
  cases d <;> try (simp [kindB] at hkd; done)
  simp only [kindB, Bool.and_eq_true, beq_iff_eq] at hkd
  obtain ⟨rfl, rfl⟩ := hkd
  have e1 : (cs.map (c1 ι))[q.toNat * tj.size]? = some (cV ι v) := by
    rw [Array.getElem?_map, show cs[q.toNat * tj.size]? = some v from by simpa using hv, cV_one ι h1v]; rfl
  simp only [execOp, he _ _ hx, he _ _ hi, Instr.index, asIntOf, run_underlying hd, h0, h1, (tab_ty hT hj).run_size, part, (tab_ty hT hj).run_agg, hag, cV_agg, cV_int, Sem.run_bind, Sem.run_pure, Result.andThen_ok, and_self, if_true, Bool.false_eq_true, if_false, e1]
end
end Go.Proofs.Ytbeblgjibfoanaa.Am
