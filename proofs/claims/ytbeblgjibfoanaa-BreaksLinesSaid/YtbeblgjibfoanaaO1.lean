/- Rules for walking Go functions with memory told by tags (O1). -/
import Derived.Test.YtbeblgjibfoanaaB3
import Derived.ChangeArms
import Derived.DataReads
import Derived.WideShapes
import Derived.SizedLaws
namespace Go.Proofs.Ytbeblgjibfoanaa.Am
set_option linter.unusedSimpArgs false
set_option linter.unusedVariables false
open Go Go.RowKit
/-! What is handed in, told by what is read of it. -/
section
variable {H : Type} {enc : TypeId × Value → H} {P : Program} {W : World}
theorem cell_lt {a : Addr} {u : Value} (h : W.cell? a = some u) : a.block < W.heap.size ∧ a.spot = none := by
  unfold World.cell? at h
  split at h
  · rename_i c e f hb
    split at h
    · simp at h
    · rename_i hs
      refine ⟨(Array.getElem?_eq_some_iff.1 hb).1, ?_⟩
      simpa using hs
  · simp at h
theorem look_w {a : Addr} {u : Value} (h : W.cell? a = some u) (hp : plain1 (e1 u) = true) : look ⟨W, []⟩ a = some (e1 u) := by
  have := (cell_lt h).1
  simp only [look, this, if_true, h, Option.map_some, Option.bind_some, hp]
theorem pick_list {β : Type} {Q : Nat → β → Prop} : ∀ (n : Nat), (∀ i, i < n → ∃ x, Q i x) → ∃ xs : List β, xs.length = n ∧ ∀ i x, xs[i]? = some x → Q i x := by
  intro n
  induction n with
  | zero => intro _; exact ⟨[], rfl, fun i x h => by simp at h⟩
  | succ n ih =>
    intro h
    obtain ⟨xs, hl, hx⟩ := ih (fun i hi => h i (by omega))
    obtain ⟨x, hq⟩ := h n (by omega)
    refine ⟨xs ++ [x], by simp [hl], fun i y hy => ?_⟩
    by_cases hi : i < n
    · rw [List.getElem?_append_left (by omega)] at hy; exact hx i y hy
    · have hi2 : i < n + 1 := by have := (List.getElem?_eq_some_iff.1 hy).1; simp [hl] at this; omega
      have e : i = n := by omega
      subst e
      rw [List.getElem?_append_right (by omega), hl] at hy
      simp at hy
      rw [← hy]; exact hq
theorem okWide_spot {t e : TypeId} {r : Reach} {base : Nat} {v : Value} (ht : P.underlying t = some (.slice e)) (h : Value.okWide P W r base t v) : ∀ a n c, v = .slice (some a) n c → a.spot = none := by
  rintro a n c rfl
  simp only [Value.okWide, ht, Cell.okWide, Cell.ok] at h
  exact h.2.2.2.1
theorem weights_all_mem {e : TypeId} {d : DataW H} : ∀ {ds : List (DataW H)}, d ∈ ds → ∀ n ∈ d.weights P e, n ∈ DataW.weightsAll P e ds := by
  intro ds
  induction ds with
  | nil => intro h; simp at h
  | cons a r ih =>
    intro h n hn
    simp only [DataW.weightsAll, List.mem_append]
    rcases List.mem_cons.1 h with rfl | h
    · exact .inl hn
    · exact .inr (ih h n hn)
theorem add_plain {a : Addr} (h : a.spot = none) (n : Nat) : a.add n = ⟨a.block, a.off + n, none⟩ := by
  obtain ⟨b, o, s⟩ := a
  simp only at h
  subst h
  exact addA_none b o n
/-- a slice that is handed in: where it has room it lies in the world -/
theorem open_slice {t e : TypeId} (B sz : Nat) (ht : P.underlying t = some (.slice e)) (hc : P.cellsOf e = sz) (hB : P.bytesOf e = B) (hsz : 0 < sz) {fuel : Nat} {cs : List Value} {y : DataW H × List MemPlace}
    (hy : DataW.trod enc P W 0 (fun _ => true) true fuel t cs = some y) (hw : ∀ n ∈ y.1.weights P t, n ≤ reachBytes) :
    (cs = [.slice none 0 0]) ∨ (∃ b o s, cs = [.slice (some ⟨b, o, some s⟩) 0 0]) ∨ ∃ b o len cap, cs = [.slice (some ⟨b, o, none⟩) len cap] ∧ len ≤ cap ∧ len ≤ 9223372036854775807 ∧ len * B ≤ 140737488351232 ∧
      ∀ i, i < len → ∃ (c : List Value) (n : Nat) (z : DataW H × List MemPlace), c.length = sz ∧ (∀ j u, c[j]? = some u → W.cell? ⟨b, o + i * sz + j, none⟩ = some u) ∧ DataW.trod enc P W 0 (fun _ => true) true n e c = some z ∧ ∀ n ∈ z.1.weights P e, n ≤ reachBytes := by
  rcases DataW.trod_slice ht hy with ⟨rfl, _⟩ | ⟨a, len, cap, elems, rest, n, _, rfl, rfl, _, hl, hm, hlen, hel, hsp, _⟩
  · exact .inl rfl
  · obtain ⟨hr1, hr2⟩ := hsp rfl
    have hwt : ∀ d ∈ elems.map (·.1), ∀ m ∈ d.weights P e, m ≤ reachBytes := fun d hd m hm2 => hw m (by
      simp only [DataW.weights, ht, List.mem_cons, List.mem_append]
      exact .inr (.inl (weights_all_mem hd m hm2)))
    have each : ∀ i, i < len → ∃ (c : List Value) (z : DataW H × List MemPlace), c.length = sz ∧ (∀ j u, c[j]? = some u → W.cell? (a.add (i * sz + j)) = some u) ∧ DataW.trod enc P W 0 (fun _ => true) true n e c = some z ∧ ∀ n ∈ z.1.weights P e, n ≤ reachBytes := by
      intro i hi
      have h1 := hel i hi
      rw [List.getElem?_eq_getElem (show i < elems.length from by omega), Option.bind_eq_some_iff] at h1
      obtain ⟨c, hcs, hy'⟩ := h1
      obtain ⟨_, hcl, hcell⟩ := World.cells?_some hcs
      refine ⟨c, _, by omega, fun j u hj => ?_, hy', fun m hm2 => hwt _ (List.mem_map.2 ⟨_, List.getElem_mem _, rfl⟩) m hm2⟩
      have hj2 : j < P.cellsOf e := by have := (List.getElem?_eq_some_iff.1 hj).1; omega
      have := hcell j hj2
      rw [hj, hc] at this
      rw [← this, Go.Addr.add_add]
    by_cases h0 : cap = 0
    · subst h0
      obtain rfl : len = 0 := by omega
      obtain ⟨b, o, s⟩ := a
      cases s with
      | none => exact .inr (.inr ⟨b, o, 0, 0, rfl, Nat.le_refl _, Nat.zero_le _, by omega, fun i hi => absurd hi (Nat.not_lt_zero i)⟩)
      | some s => exact .inr (.inl ⟨b, o, s, rfl⟩)
    · have hspot : a.spot = none := by
        have aux : ∀ k c, k = 0 → W.cells? 0 (a.add (k * P.cellsOf e)) (P.cellsOf e) = some c → a.spot = none := by
          intro k c hk hcs
          subst hk
          obtain ⟨_, hcl, hcell⟩ := World.cells?_some hcs
          have hlt : 0 < c.length := by omega
          have h2 := hcell 0 (by omega)
          rw [List.getElem?_eq_getElem hlt] at h2
          have := (cell_lt h2).2
          simpa [Addr.add] using this
        by_cases hl0 : len = 0
        · have h1 := hr2 0 (by omega)
          rw [List.getElem?_eq_getElem (show 0 < rest.length from by omega), Option.bind_eq_some_iff] at h1
          obtain ⟨c, hcs, _⟩ := h1
          exact aux (len + 0) c (by omega) hcs
        · have h1 := hel 0 (by omega)
          rw [List.getElem?_eq_getElem (show 0 < elems.length from by omega), Option.bind_eq_some_iff] at h1
          obtain ⟨c, hcs, _⟩ := h1
          exact aux 0 c rfl hcs
      obtain ⟨b, o, s⟩ := a
      simp only at hspot
      subst hspot
      refine .inr (.inr ⟨b, o, len, cap, rfl, hl, ?_, ?_, fun i hi => ?_⟩)
      · have : maxLen = 9223372036854775807 := by decide
        omega
      · have := hw ((elems.length + rest.length) * P.bytesOf e) (by
          have e1 : (elems.map (·.1)).length = elems.length := List.length_map _
          have e2 : (rest.map (·.1)).length = rest.length := List.length_map _
          simp only [DataW.weights, ht, List.mem_cons, e1, e2]
          exact .inl trivial)
        rw [hB] at this
        have h2 : len * B ≤ (elems.length + rest.length) * B := Nat.mul_le_mul_right _ (by omega)
        exact Nat.le_trans h2 (Nat.le_trans this (by decide))
      · obtain ⟨c, z, h1, h2, h3, h4⟩ := each i hi
        exact ⟨c, n, z, h1, fun j u hj => by rw [← h2 j u hj, addA_none, Nat.add_assoc], h3, h4⟩
/-- integers that are handed in -/
theorem open_ints {t e : TypeId} (ht : P.underlying t = some (.slice e)) (he : P.underlying e = some (.int .i64)) (hc : P.cellsOf e = 1) (hB : P.bytesOf e = 8) {fuel : Nat} {cs : List Value} {y : DataW H × List MemPlace}
    (hy : DataW.trod enc P W 0 (fun _ => true) true fuel t cs = some y) (hw : ∀ n ∈ y.1.weights P t, n ≤ reachBytes) :
    ∃ (v : Value) (xs : List Int), cs = [v] ∧ (RInts ⟨W, []⟩ (e1 v) xs ∨ ∃ b o s, v = .slice (some ⟨b, o, some s⟩) 0 0 ∧ xs = []) ∧ xs.length * 8 ≤ 140737488351232 ∧ (∀ a n c, v = .slice (some a) n c → n ≤ c) ∧ plain1 (e1 v) = true ∧ ∃ a n c, v = .slice a n c := by
  rcases open_slice 8 1 ht hc hB (by decide) hy hw with rfl | ⟨b, o, s, rfl⟩ | ⟨b, o, len, cap, rfl, hl, hm, hb, each⟩
  · exact ⟨_, [], rfl, .inl (.inr ⟨rfl, rfl⟩), by simp, (fun a n c h => by cases h), rfl, _, _, _, rfl⟩
  · exact ⟨_, [], rfl, .inr ⟨b, o, s, rfl, rfl⟩, by simp, (fun a n c h => by cases h; exact Nat.le_refl _), rfl, _, _, _, rfl⟩
  · obtain ⟨xs, hxl, hxs⟩ := pick_list (Q := fun i z => look ⟨W, []⟩ ⟨b, o + i, none⟩ = some (.int .i64 z)) len (fun i hi => by
      obtain ⟨c, n, z, h1, h2, h3, _⟩ := each i hi
      obtain ⟨k, rfl, _, _⟩ := DataW.trod_int he h3
      refine ⟨k, ?_⟩
      have := h2 0 _ rfl
      simp only [Nat.mul_one, Nat.add_zero] at this
      exact look_w this rfl)
    refine ⟨_, xs, rfl, .inl (.inl ⟨b, o, cap, by rw [hxl]; rfl, by omega, hxs⟩), by rw [hxl]; exact hb, (fun a n c h => by cases h; exact hl), rfl, _, _, _, rfl⟩
end
/-- an argument's weights, out of all arguments' -/
theorem weigh {H : Type} {P : Program} {ts : List TypeId} {ds : List (DataW H)} {j : Nat} {t : TypeId} {d : DataW H} (h : (DataW.weightsEach P ts ds).all (· ≤ reachBytes) = true) (ht : ts[j]? = some t) (hd : ds[j]? = some d) : ∀ n ∈ d.weights P t, n ≤ reachBytes :=
  fun n hn => by have := List.all_eq_true.1 h n (DataW.weights_mem_each ht hd n hn); simpa using this
/-- a function that is told for whoever calls it, called from the world as it is handed in -/
theorem C0.run {P : Program} {f : FuncId} {args : List Value} {W : World} {r : Value} (h : C0 P f args ⟨W, []⟩ r) (ha : args.map (cV id) = args) (hr : cV id r = r) : Calls P f args.toArray W fun e w' => e = .returned r ∧ Below W.heap.size W w' := by
  have hS : St ⟨W, []⟩ id [] W := ⟨⟨rfl, rfl, rfl, Nat.le_refl _, fun _ _ => rfl⟩, by simp, (fun x hx => by cases hx), (fun x hx => by cases hx)⟩
  have h1 := h id W hS
  rw [ha] at h1
  exact h1.mono fun e w' ⟨v, X, h2, _, _, h3, h4, h5⟩ => by
    subst h4
    exact ⟨by rw [h2, hr], h3.below⟩
end Go.Proofs.Ytbeblgjibfoanaa.Am
