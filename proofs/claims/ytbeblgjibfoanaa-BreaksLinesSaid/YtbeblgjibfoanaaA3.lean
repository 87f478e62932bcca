/- Rules for walking Go functions with memory told by tags (A3). -/
import Derived.Test.YtbeblgjibfoanaaA2
import Derived.Laws.Strings
import Derived.Laws.Entries
namespace Go.Proofs.Ytbeblgjibfoanaa.Am
set_option linter.unusedSimpArgs false
set_option linter.unusedVariables false
open Go Go.RowKit
/-! Operations that only compute: what they come to. -/
theorem dBin_run {P : Program} {ι : Nat → Nat} {op : BinOp} {x y v : Value} (h : dBin op x y = some v) (t : TypeId) (w : World) : (binOp op t (cV ι x) (cV ι y)).run P w = .ok (cV ι v) w := by
  unfold dBin at h
  split at h <;> first
    | (simp at h; done)
    | (split at h
       · rename_i e
         subst e
         simp only [Option.some.injEq] at h
         subst h
         simp [binOp, Op.intArith, Op.intCmp, Op.intBits, bne]
         try rfl
       · simp at h)
    | (simp only [Option.some.injEq] at h
       subst h
       simp [binOp, Op.stringOp, ByteArray.toList_eq, bne])
theorem dBin_guard {P : Program} {ι : Nat → Nat} {op : BinOp} {x y v : Value} (h : dBin op x y = some v) (t : TypeId) (a b : Operand) (w : World) : (eqGuard op t a b (cV ι x) (cV ι y)).run P w = .ok () w := by
  unfold dBin at h
  split at h <;> first
    | (simp at h; done)
    | (simp [eqGuard]; done)
    | skip
def fldOf (Θ : Tab) (s : TypeId) (f : Nat) : Option (Nat × Ty) :=
  match Θ.lookup s with
  | some i => match i.k with
    | .struct fs => match fs[f]? with
      | some (o, t) => match Θ.lookup t with
        | some j => some (o, j)
        | none => none
      | none => none
    | _ => none
  | none => none
theorem fldOf_run {P : Program} {Θ : Tab} (hT : tabOk P Θ = true) {s : TypeId} {f o : Nat} {j : Ty} (h : fldOf Θ s f = some (o, j)) :
    ∃ fields g, P.underlying s = some (.struct fields) ∧ fields[f]? = some g ∧ g.offset = o ∧ TyOk P g.type j := by
  unfold fldOf at h
  split at h <;> try (simp at h; done)
  rename_i i hi
  split at h <;> try (simp at h; done)
  rename_i fs hk
  split at h <;> try (simp at h; done)
  rename_i o' t hf
  split at h <;> try (simp at h; done)
  rename_i j' hj
  simp only [Option.some.injEq, Prod.mk.injEq] at h
  obtain ⟨rfl, rfl⟩ := h
  obtain ⟨d, hd, hkd⟩ := (tab_ty hT hi).und
  rw [hk] at hkd
  cases d <;> try (simp [kindB] at hkd; done)
  rename_i fields
  simp only [kindB, beq_iff_eq] at hkd
  subst hkd
  rw [List.getElem?_map] at hf
  cases hg : fields.toList[f]? with
  | none => simp [hg] at hf
  | some g =>
    simp only [hg, Option.map_some, Option.some.injEq, Prod.mk.injEq] at hf
    refine ⟨fields, g, hd, by simpa using hg, hf.1, ?_⟩
    rw [hf.2]; exact tab_ty hT hj
def dConv (i j : TyK) (v : Value) : Option Value :=
  match i, j, v with
  | .int _, .int k, .int _ n => some (.int k (k.wrap n))
  | .string, .string, .string s => some (.string s)
  | _, _, _ => none
def s0 : Value → Bool
  | .func _ _ _ | .agg _ | .tuple _ => false
  | _ => true
theorem s0_cV (ι : Nat → Nat) {v : Value} (h : s0 v = true) : cV ι v = c0 ι v := by
  cases v <;> first | rfl | simp [s0] at h
def putL (cells : List Value) (o : Nat) : List Value → List Value
  | [] => cells
  | v :: vs => putL (cells.set o v) (o + 1) vs
/-- the parts of a struct, put in: place and size of each -/
def fillL (place : Nat → Option (Nat × Nat)) (cells : List Value) : List (Nat × List Value) → Option (List Value)
  | [] => some cells
  | (i, vs) :: rest => match place i with
    | some (o, n) => if vs.length = n ∧ o + n ≤ cells.length then fillL place (putL cells o vs) rest else none
    | none => none
def cellsL : Value → List Value
  | .agg cs => cs.toList
  | v => [v]
def partsL (e : Operand → Option Value) : List (Nat × Operand) → Option (List (Nat × List Value))
  | [] => some []
  | (i, x) :: ps => match e x with
    | some (.tuple _) => none
    | some v => match partsL e ps with
      | some l => some ((i, cellsL v) :: l)
      | none => none
    | none => none
def mapE (e : Operand → Option Value) : List Operand → Option (List Value)
  | [] => some []
  | x :: xs => match e x with
    | some v => match mapE e xs with
      | some l => some (v :: l)
      | none => none
    | none => none
def placeS (Θ : Tab) (t : TypeId) (i : Nat) : Option (Nat × Nat) :=
  match fldOf Θ t i with
  | some (o, j) => some (o, j.size)
  | none => none
def dLen (i : Ty) (v : Value) : Option Value := match i.k, v with
  | .string, .string s => some (.int .i64 s.size)
  | .slice _, .slice _ n _ => some (.int .i64 n)
  | .array n _, _ => some (.int .i64 n)
  | _, _ => none
def dOp (Θ : Tab) (e : Operand → Option Value) : Op → Option Value
  | .move x => e x
  | .assign x => e x
  | .pick c a b => match e c with
    | some (.bool true) => e a
    | some (.bool false) => e b
    | _ => none
  | .nilCheck x => match e x with
    | some (.pointer (some a)) => some (.pointer (some a))
    | _ => none
  | .binOp op _ x y _ => match e x, e y with
    | some u, some v => dBin op u v
    | _, _ => none
  | .unOp .not _ x => match e x with
    | some (.bool b) => some (.bool (!b))
    | _ => none
  | .unOp .neg _ x => match e x with
    | some (.int k n) => some (.int k (k.wrap (0 - n)))
    | _ => none
  | .convert s d x => match Θ.lookup s, Θ.lookup d, e x with
    | some i, some j, some v => dConv i.k j.k v
    | _, _, _ => none
  | .fieldAddr s x f => match fldOf Θ s f, e x with
    | some (o, j), some (.pointer (some a)) => if j.size = 0 then none else some (.pointer (some (addA a o)))
    | _, _ => none
  | .field s x f => match fldOf Θ s f, e x with
    | some (o, j), some (.agg cs) => if aggB j.k then some (.agg ⟨(cs.toList.drop o).take j.size⟩) else match cs.toList[o]? with
      | some v => if v.oneCell' then some v else none
      | none => none
    | _, _ => none
  | .extract x n => match e x with
    | some (.tuple vs) => match vs.toList[n]? with
      | some (.tuple _) => none
      | r => r
    | _ => none
  | .makeFunc fn first cap => match mapE e first.toList, mapE e cap.toList with
    | some f, some c => if f.all s0 && c.all s0 then some (.func fn ⟨f⟩ ⟨c⟩) else none
    | _, _ => none
  | .build t parts => match Θ.lookup t with
    | some i => match i.k with
      | .struct fs => match partsL e parts.toList with
        | some ps => match fillL (placeS Θ t) i.zero ps with
          | some cs => if fs.all (fun f => (Θ.lookup f.2).isSome) then some (.agg ⟨cs⟩) else none
          | none => none
        | none => none
      | .array _ el => match Θ.lookup el, partsL e parts.toList with
        | some j, some ps => match fillL (fun k => some (k * j.size, j.size)) i.zero ps with
          | some cs => some (.agg ⟨cs⟩)
          | none => none
        | _, _ => none
      | _ => none
    | none => none
  | .call ⟨.builtin .len, args, ts⟩ => match ts.toList, mapE e args.toList with
    | [t], some [v] => match Θ.lookup t with
      | some i => dLen i v
      | none => none
    | _, _ => none
  | .call ⟨.builtin .min, args, _⟩ => match mapE e args.toList with
    | some [.int k x, .int _ y] => some (.int k (min x y))
    | _ => none
  | .call ⟨.builtin .max, args, _⟩ => match mapE e args.toList with
    | some [.int k x, .int _ y] => some (.int k (max x y))
    | _ => none
  | _ => none
end Go.Proofs.Ytbeblgjibfoanaa.Am
