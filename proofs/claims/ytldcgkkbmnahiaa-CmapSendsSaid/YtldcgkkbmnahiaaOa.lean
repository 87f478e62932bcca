/- what is handed in reads as a kind's element -/
import Derived.Test.YtldcgkkbmnahiaaWWords
import Derived.SizedLaws
import Derived.ChangeSlices
import Derived.ChangeArms
import Derived.DataReads
import Derived.DataElems
namespace Go.Proofs.Ytldcgkkbmnahiaa.Px
set_option linter.unusedSimpArgs false
set_option linter.unusedVariables false
open Go.RowKit Go.ChangeShapes Go.WideShapes Go.Proofs.YtldcgkkbmnahiaaW.PrintWords

section
variable {H : Type} {enc : TypeId × Value → H} {P : Program} {W : World}
/-- What is handed in as a type t reads as a kind's element, and is as G says. -/
def Opens {α : Type} (enc : TypeId × Value → H) (P : Program) (W : World) (t : TypeId) (k : Kd α) (G : α → Prop) : Prop :=
  ∀ (fuel : Nat) (cs : List Value) (y : DataW H × List MemPlace), DataW.trod enc P W 0 (fun _ => true) true fuel t cs = some y → (∀ n ∈ y.1.weights P t, n ≤ reachBytes) → ∃ x, k.K W x cs ∧ G x
theorem opens_int {t : TypeId} {k : IntKind} (ht : P.underlying t = some (.int k)) : Opens enc P W t (Kd.int k) (fun n => (Lit.int k n).wf = true) := by
  intro fuel cs y h _
  obtain ⟨n, rfl, _, hw⟩ := DataW.trod_int ht h
  exact ⟨n, rfl, hw⟩
theorem opens_bool {t : TypeId} (ht : P.underlying t = some .bool) : Opens enc P W t Kd.bool (fun _ => True) := by
  intro fuel cs y h _
  obtain ⟨b, rfl, _⟩ := DataW.trod_bool ht h
  exact ⟨b, rfl, trivial⟩
theorem opens_string {t : TypeId} (ht : P.underlying t = some .string) : Opens enc P W t Kd.string (fun s => s.size ≤ 140737488351232) := by
  intro fuel cs y h hw
  obtain ⟨s, rfl, rfl, _⟩ := DataW.trod_string ht h
  refine ⟨s, rfl, ?_⟩
  have := hw s.data.toList.length (by simp [DataW.weights])
  rw [Array.length_toList] at this
  exact Nat.le_trans this (by decide)
theorem opens_iso {α β : Type} {t : TypeId} {k : Kd α} {G : α → Prop} {f : β → α} (g : α → β) (hf : ∀ p, f (g p) = p) (h : Opens enc P W t k G) : Opens enc P W t (Kd.iso k f) (fun x => G (f x)) := by
  intro fuel cs y hy hw
  obtain ⟨p, hK, hG⟩ := h fuel cs y hy hw
  refine ⟨g p, ?_, ?_⟩
  · show k.K W (f (g p)) cs
    rw [hf]; exact hK
  · show G (f (g p))
    rw [hf]; exact hG
theorem weights_all_mem {e : TypeId} {d : DataW H} : ∀ {ds : List (DataW H)}, d ∈ ds → ∀ n ∈ d.weights P e, n ∈ DataW.weightsAll P e ds := by
  intro ds
  induction ds with
  | nil => intro h; simp at h
  | cons a r ih =>
    intro h n hn
    simp only [DataW.weightsAll, List.mem_append]
    rcases List.mem_cons.1 h with rfl | h
    · exact .inl hn
    · exact .inr (ih h n hn)
theorem pick_list {β : Type} {Q : Nat → β → Prop} : ∀ (n : Nat), (∀ i, i < n → ∃ x, Q i x) → ∃ xs : List β, xs.length = n ∧ ∀ i x, xs[i]? = some x → Q i x := by
  intro n
  induction n with
  | zero => intro _; exact ⟨[], rfl, fun i x h => by simp at h⟩
  | succ n ih =>
    intro h
    obtain ⟨xs, hl, hx⟩ := ih (fun i hi => h i (by omega))
    obtain ⟨x, hq⟩ := h n (by omega)
    refine ⟨xs ++ [x], by simp [hl], fun i y hy => ?_⟩
    by_cases hi : i < n
    · rw [List.getElem?_append_left (by omega)] at hy; exact hx i y hy
    · have hi2 : i < n + 1 := by have := (List.getElem?_eq_some_iff.1 hy).1; simp [hl] at this; omega
      have e : i = n := by omega
      subst e
      rw [List.getElem?_append_right (by omega), hl] at hy
      simp at hy
      rw [← hy]; exact hq
theorem opens_slice {α : Type} {t e : TypeId} {k : Kd α} {G : α → Prop} (B : Nat) (ht : P.underlying t = some (.slice e)) (hc : P.cellsOf e = k.sz) (hB : P.bytesOf e = B) (h : Opens enc P W e k G) :
    Opens enc P W t (Kd.slice e k) (fun xs => (∀ x ∈ xs, G x) ∧ xs.length * B ≤ 140737488351232) := by
  intro fuel cs y hy hw
  rcases DataW.trod_slice ht hy with ⟨rfl, _⟩ | ⟨a, len, cap, elems, rest, n, _, rfl, rfl, _, hl, hm, hlen, hel, _, _⟩
  · refine ⟨[], ⟨none, 0, rfl, Nat.le_refl _, rfl, Nat.zero_le _, fun h => absurd h (Nat.lt_irrefl 0)⟩, fun x hx => by simp at hx, by simp⟩
  · have hwt : ∀ d ∈ elems.map (·.1), ∀ m ∈ d.weights P e, m ≤ reachBytes := fun d hd m hm2 => hw m (by
      simp only [DataW.weights, ht, List.mem_cons, List.mem_append]
      exact .inr (.inl (weights_all_mem hd m hm2)))
    have each : ∀ i, i < len → ∃ x, (∃ c, c.length = k.sz ∧ k.K W x c ∧ ∀ j u, c[j]? = some u → W.cell? (a.add (i * k.sz + j)) = some u) ∧ G x := by
      intro i hi
      have h1 := hel i hi
      rw [List.getElem?_eq_getElem (show i < elems.length from by omega), Option.bind_eq_some_iff] at h1
      obtain ⟨c, hcs, hy'⟩ := h1
      obtain ⟨_, hcl, hcell⟩ := World.cells?_some hcs
      obtain ⟨x, hK, hG⟩ := h n c _ hy' (fun m hm2 => hwt _ (List.mem_map.2 ⟨_, List.getElem_mem _, rfl⟩) m hm2)
      refine ⟨x, ⟨c, by omega, hK, fun j u hj => ?_⟩, hG⟩
      have hj2 : j < P.cellsOf e := by have := (List.getElem?_eq_some_iff.1 hj).1; omega
      have := hcell j hj2
      rw [hj, hc] at this
      rw [← this, Go.Addr.add_add]
    obtain ⟨xs, hxl, hxs⟩ := pick_list len each
    refine ⟨xs, ⟨some a, cap, by rw [hxl], by omega, hxl.trans hxl.symm ▸ rfl, ?_, fun _ => ⟨a, rfl, fun j p hp => (hxs j p hp).1⟩⟩, fun x hx => ?_, ?_⟩
    · have : maxLen = 9223372036854775807 := by decide
      omega
    · obtain ⟨i, hi⟩ := List.getElem?_of_mem hx
      exact (hxs i x hi).2
    · have := hw ((elems.length + rest.length) * P.bytesOf e) (by
        have e1 : (elems.map (·.1)).length = elems.length := List.length_map _
        have e2 : (rest.map (·.1)).length = rest.length := List.length_map _
        simp only [DataW.weights, ht, List.mem_cons, e1, e2]
        exact .inl trivial)
      rw [hB] at this
      have h2 : xs.length * B ≤ (elems.length + rest.length) * B := Nat.mul_le_mul_right _ (by omega)
      exact Nat.le_trans h2 (Nat.le_trans this (by decide))
/-- the cells of some fields, one behind the other -/
def catF (P : Program) (cs : List Value) : List Field → List Value
  | [] => []
  | f :: fs => (cs.drop f.offset).take (P.cellsOf f.type) ++ catF P cs fs
def OpensF {α : Type} (enc : TypeId × Value → H) (P : Program) (W : World) (fs : List Field) (k : Kd α) (G : α → Prop) : Prop :=
  ∀ (fuel : Nat) (cs : List Value) (xs : List (DataW H × List MemPlace)), xs.length = fs.length → (∀ (i : Nat) (f : Field), fs[i]? = some f → DataW.trod enc P W 0 (fun _ => true) true fuel f.type ((cs.drop f.offset).take (P.cellsOf f.type)) = xs[i]?) →
    (∀ n ∈ DataW.weightsEach P (fs.map (·.type)) (xs.map (·.1)), n ≤ reachBytes) → ∃ x, k.K W x (catF P cs fs) ∧ G x
theorem opensF_one {α : Type} {f : Field} {k : Kd α} {G : α → Prop} (h : Opens enc P W f.type k G) : OpensF enc P W [f] k G := by
  intro fuel cs xs hl hf hw
  match xs, hl with
  | [y], _ =>
    obtain ⟨x, hK, hG⟩ := h fuel _ y (hf 0 f rfl) (fun n hn => hw n (by simp only [List.map_cons, List.map_nil, DataW.weightsEach, List.mem_append]; exact .inl hn))
    exact ⟨x, by simpa [catF] using hK, hG⟩
theorem opensF_cons {α β : Type} {f : Field} {fs : List Field} {k : Kd α} {k2 : Kd β} {G : α → Prop} {G2 : β → Prop} (h : Opens enc P W f.type k G) (h2 : OpensF enc P W fs k2 G2) : OpensF enc P W (f :: fs) (Kd.pair k k2) (fun x => G x.1 ∧ G2 x.2) := by
  intro fuel cs xs hl hf hw
  match xs, hl with
  | y :: ys, hl =>
    obtain ⟨x, hK, hG⟩ := h fuel _ y (hf 0 f rfl) (fun n hn => hw n (by simp only [List.map_cons, DataW.weightsEach, List.mem_append]; exact .inl hn))
    obtain ⟨x2, hK2, hG2⟩ := h2 fuel cs ys (by simpa using hl) (fun i g hg => hf (i + 1) g hg) (fun n hn => hw n (by simp only [List.map_cons, DataW.weightsEach, List.mem_append]; exact .inr hn))
    exact ⟨(x, x2), ⟨_, _, rfl, hK, hK2⟩, hG, hG2⟩
/-- the fields stand one behind the other from o on; how many cells they take -/
def contig (P : Program) : Nat → List Field → Option Nat
  | o, [] => some o
  | o, f :: fs => if f.offset = o then contig P (o + P.cellsOf f.type) fs else none
theorem catF_contig (cs : List Value) : ∀ (fs : List Field) (o m : Nat), contig P o fs = some m → m ≤ cs.length → catF P cs fs = (cs.drop o).take (m - o) ∧ o ≤ m := by
  intro fs
  induction fs with
  | nil => intro o m h hm; simp only [contig, Option.some.injEq] at h; subst h; simp [catF]
  | cons f fs ih =>
    intro o m h hm
    simp only [contig] at h
    split at h
    · rename_i ho
      obtain ⟨e, h1⟩ := ih _ _ h hm
      refine ⟨?_, by omega⟩
      simp only [catF]
      rw [e, ho, show m - o = P.cellsOf f.type + (m - (o + P.cellsOf f.type)) from by omega, List.take_add, List.drop_drop]
    · exact absurd h (by simp)
theorem opens_struct {α : Type} {t : TypeId} {fs : Array Field} {k : Kd α} {G : α → Prop} (ht : P.underlying t = some (.struct fs)) (hcon : contig P 0 fs.toList = some (P.cellsOf t)) (h : OpensF enc P W fs.toList k G) : Opens enc P W t k G := by
  intro fuel cs y hy hw
  obtain ⟨xs, n, _, rfl, hl, hxl, hx⟩ := DataW.trod_struct ht hy
  obtain ⟨x, hK, hG⟩ := h n cs xs (by simpa using hxl) (fun i f hf => hx i f (by simpa using hf)) (fun m hm => hw m (by simp only [DataW.weights, ht]; exact hm))
  obtain ⟨e, _⟩ := catF_contig (P := P) cs fs.toList 0 _ hcon (by omega)
  refine ⟨x, ?_, hG⟩
  rw [e] at hK
  simpa [← hl] using hK
/-- an argument's weights, out of all arguments' -/
theorem weigh {ts : List TypeId} {ds : List (DataW H)} {j : Nat} {t : TypeId} {d : DataW H} (h : (DataW.weightsEach P ts ds).all (· ≤ reachBytes) = true) (ht : ts[j]? = some t) (hd : ds[j]? = some d) : ∀ n ∈ d.weights P t, n ≤ reachBytes :=
  fun n hn => by have := List.all_eq_true.1 h n (DataW.weights_mem_each ht hd n hn); simpa using this
/-- an argument, opened -/
theorem opened {α : Type} {t : TypeId} {k : Kd α} {G : α → Prop} {v : Value} {d : DataW H} {ps : List MemPlace} (h : Opens enc P W t k G) (ht : DataW.Trod enc P W 0 (fun _ => true) true t v d ps) (hw : ∀ n ∈ d.weights P t, n ≤ reachBytes) : ∃ x, k.K W x v.cells.toList ∧ G x := by
  obtain ⟨fuel, hf⟩ := ht
  exact h fuel _ _ hf hw
end

end Go.Proofs.Ytldcgkkbmnahiaa.Px
