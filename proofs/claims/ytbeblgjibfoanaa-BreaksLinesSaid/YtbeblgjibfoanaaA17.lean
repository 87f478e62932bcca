/- Rules for walking Go functions with memory told by tags (A17). -/
import Derived.Test.YtbeblgjibfoanaaA16
namespace Go.Proofs.Ytbeblgjibfoanaa.Am
set_option linter.unusedSimpArgs false
set_option linter.unusedVariables false
open Go Go.RowKit
/-! What a function comes to, whoever calls it: it reads what lies in F, and leaves X beside it. -/
def Mem.add (F : Mem) (X : List (Nat × Row)) : Mem := { F with ch := X ++ F.ch }
def C (P : Program) (f : FuncId) (args : List Value) (F : Mem) (Q : Value → List (Nat × Row) → Prop) : Prop :=
  ∀ (ι : Nat → Nat) (w : World), St F ι [] w → Calls P f (args.map (cV ι)).toArray w fun e w' => ∃ (v : Value) (X : List (Nat × Row)), e = .returned (cV ι v) ∧ (∀ κ, rV κ v = v) ∧ (∀ x ∈ X, ∀ u ∈ x.2.cs, plain1 u = true) ∧ St (F.add X) ι [] w' ∧ Q v X
theorem C.mono {P : Program} {f : FuncId} {args : List Value} {F : Mem} {Q Q' : Value → List (Nat × Row) → Prop} (h : C P f args F Q) (hq : ∀ v X, Q v X → Q' v X) : C P f args F Q' :=
  fun ι w hS => (h ι w hS).mono fun _ _ ⟨v, X, h1, h2, h5, h3, h4⟩ => ⟨v, X, h1, h2, h5, h3, hq _ _ h4⟩
def push (ι : Nat → Nat) (K : Own) (F : Mem) : Mem := { F with ch := (K.map fun x => (ι x.1, x.2.r ι)) ++ F.ch }
theorem rA_rA (ι κ : Nat → Nat) (a : Addr) : rA κ (rA ι a) = rA ι a := by
  obtain ⟨b, o, s⟩ := a
  rcases s with _ | _ | s <;> rfl
theorem r0_r0 (ι κ : Nat → Nat) (v : Value) : r0 κ (r0 ι v) = r0 ι v := r0_plain κ (plain0_r0 ι v)
theorem r1_r1 (ι κ : Nat → Nat) (v : Value) : r1 κ (r1 ι v) = r1 ι v := by
  cases v with
  | func fn x y => simp [r1_func, r0_r0, Function.comp_def]
  | pointer a => cases a with
    | none => rfl
    | some a => simp [r1, r0, rA_rA]
  | slice a n c => cases a with
    | none => rfl
    | some a => simp [r1, r0, rA_rA]
  | _ => rfl
theorem r2_r2 (ι κ : Nat → Nat) (v : Value) : r2 κ (r2 ι v) = r2 ι v := by
  cases v with
  | agg cs => simp [r2_agg, r1_r1, Function.comp_def]
  | func fn x y => simp [r2, r1_func, r0_r0, Function.comp_def]
  | pointer a => cases a <;> simp [r2, r1, r0, rA_rA]
  | slice a n c => cases a <;> simp [r2, r1, r0, rA_rA]
  | _ => rfl
theorem rV_rV (ι κ : Nat → Nat) (v : Value) : rV κ (rV ι v) = rV ι v := by
  cases v with
  | tuple vs => simp [r2_r2, Function.comp_def]
  | agg cs => simp [r1_r1, Function.comp_def]
  | func fn x y => simp [r0_r0, Function.comp_def]
  | pointer a => cases a <;> simp [rA_rA]
  | slice a n c => cases a <;> simp [rA_rA]
  | _ => rfl
theorem map_cV_rV (ι : Nat → Nat) (vs : List Value) : (vs.map (rV ι)).map (cV ι) = vs.map (cV ι) := by simp [cV_rV]
structure Val (ι : Nat → Nat) (K : Own) (F : Mem) : Prop where
  nodup : ((K.map fun x => ι x.1) ++ F.ch.map Prod.fst).Nodup
  own : ∀ x ∈ K, F.w0.heap.size ≤ ι x.1 ∧ ∀ v ∈ x.2.cs, v.oneCell' = true
theorem St.val {ι : Nat → Nat} {K : Own} {F : Mem} {w : World} (h : St F ι K w) : Val ι K F :=
  ⟨h.nodup, fun x hx => ⟨(h.own x hx).1, fun v hv => by
    obtain ⟨_, ⟨junk, fr, _, _, _, h1⟩, _⟩ := h.own x hx
    have := h1 (c1 ι v) (List.mem_append_left _ (List.mem_map.2 ⟨v, hv, rfl⟩))
    rwa [c1_oneCell] at this⟩⟩
theorem St.push {ι : Nat → Nat} {K : Own} {F : Mem} {w : World} (h : St F ι K w) (κ : Nat → Nat) : St (push ι K F) κ [] w := by
  refine ⟨h.below, ?_, fun x hx => by simp at hx, fun x hx => ?_⟩
  · simpa [Am.push, Function.comp_def] using h.nodup
  · rcases List.mem_append.1 hx with hx | hx
    · obtain ⟨y, hy, rfl⟩ := List.mem_map.1 hx
      exact ⟨(h.own y hy).1, by rw [Row.c_r]; exact (h.own y hy).2.1⟩
    · exact h.ext x hx
theorem St.pull {ι κ : Nat → Nat} {K : Own} {F : Mem} {X : List (Nat × Row)} {w w' : World} (h : St F ι K w) (h' : St ((Am.push ι K F).add X) κ [] w') : St (F.add X) ι K w' := by
  refine ⟨h'.below, ?_, fun x hx => ?_, fun x hx => ?_⟩
  · have := h'.nodup
    simp only [List.map_nil, List.nil_append, Mem.add, Am.push, List.map_append, List.map_map, Function.comp_def] at this ⊢
    refine (List.Perm.nodup_iff ?_).1 this
    rw [← List.append_assoc, ← List.append_assoc]
    exact List.Perm.append_right _ List.perm_append_comm
  · have h1 := h'.ext (ι x.1, x.2.r ι) (List.mem_append_right _ (List.mem_append_left _ (List.mem_map.2 ⟨x, hx, rfl⟩)))
    exact ⟨h1.1, by have h2 := h1.2; rwa [Row.c_r] at h2, (h.own x hx).2.2⟩
  · refine h'.ext x ?_
    rcases List.mem_append.1 hx with hx | hx
    · exact List.mem_append_left _ hx
    · exact List.mem_append_right _ (List.mem_append_right _ hx)
/-- a call, by what the function comes to -/
theorem AC.ofC {P : Program} {D : List Nat} {f : FuncId} {args : List Value} {F : Mem} {K : Own} {Q : Value → List (Nat × Row) → Prop} {T : Value → Mem → Own → Prop} (h : ∀ ι, Val ι K F → C P f (args.map (rV ι)) (push ι K F) Q) (hq : ∀ v X, Q v X → (∀ κ, rV κ v = v) → (∀ x ∈ X, ∀ u ∈ x.2.cs, plain1 u = true) → T v (F.add X) K) : AC P D f args F K T := by
  intro ι w hS
  have hc := h ι hS.val ι w (hS.push ι)
  rw [map_cV_rV] at hc
  refine hc.mono fun e w' ⟨v, X, h1, h2, h5, h3, h4⟩ => ?_
  exact ⟨ι, F.add X, K, v, h1, hS.pull h3, fun _ _ => rfl, hq v X h4 h2 h5⟩
/-- reading goes on where more is there -/
def Mem.le (F F' : Mem) : Prop := ∀ a v, look F a = some v → look F' a = some v
theorem Mem.le.refl (F : Mem) : F.le F := fun _ _ h => h
theorem Mem.le.trans {F G H : Mem} (h : F.le G) (k : G.le H) : F.le H := fun a v hv => k a v (h a v hv)
theorem lookup_append_right {α : Type} {b : Nat} {l m : List (Nat × α)} (h : b ∉ l.map Prod.fst) : (l ++ m).lookup b = m.lookup b := by
  induction l with
  | nil => rfl
  | cons x l ih =>
    obtain ⟨u, r⟩ := x
    simp only [List.map_cons, List.mem_cons, not_or] at h
    rw [List.cons_append, List.lookup_cons]
    have : (b == u) = false := by simpa using h.1
    simp only [this]
    exact ih h.2
theorem look_more {F : Mem} {Y : List (Nat × Row)} (hn : (Y.map Prod.fst ++ F.ch.map Prod.fst).Nodup) : F.le ⟨F.w0, Y ++ F.ch⟩ := by
  intro a v h
  unfold look at h ⊢
  rw [Option.bind_eq_some_iff] at h ⊢
  obtain ⟨u, hu, h2⟩ := h
  refine ⟨u, ?_, h2⟩
  by_cases ha : a.block < F.w0.heap.size
  · rw [if_pos ha] at hu ⊢; exact hu
  · rw [if_neg ha] at hu ⊢
    rw [Option.bind_eq_some_iff] at hu ⊢
    obtain ⟨r, hr, hc⟩ := hu
    refine ⟨r, ?_, hc⟩
    simp only
    rw [lookup_append_right]
    · exact hr
    · intro hm
      exact (List.nodup_append.1 hn).2.2 a.block hm a.block (List.mem_map.2 ⟨_, lookup_mem hr, rfl⟩) rfl
theorem Val.le {ι : Nat → Nat} {K : Own} {F : Mem} (h : Val ι K F) : F.le (push ι K F) := by
  refine look_more ?_
  simpa [List.map_map, Function.comp_def] using h.nodup
theorem St.le_add {ι : Nat → Nat} {K : Own} {F : Mem} {X : List (Nat × Row)} {w : World} (h : St (F.add X) ι K w) : F.le (F.add X) := by
  refine look_more ?_
  have := (List.nodup_append.1 h.nodup).2.1
  simpa [Mem.add] using this
/-- one of the call's own rows, read by the callee -/
theorem Val.look {ι : Nat → Nat} {K : Own} {F : Mem} (h : Val ι K F) {t : Nat} {r : Row} (hr : K.lookup t = some r) {o : Nat} {v : Value} (hv : r.cs[o]? = some v) : look (push ι K F) ⟨ι t, o, none⟩ = some (r1 ι v) := by
  have hm := lookup_mem hr
  obtain ⟨hB, h1⟩ := h.own _ hm
  have hlk : (push ι K F).ch.lookup (ι t) = some (r.r ι) := by
    refine mem_lookup ?_ (List.mem_append_left _ (List.mem_map.2 ⟨_, hm, rfl⟩))
    simpa [push, List.map_map, Function.comp_def] using h.nodup
  unfold Am.look
  have hnb : ¬ (ι t < (push ι K F).w0.heap.size) := by simp only [push]; simp only at hB; omega
  simp only [hnb, if_false, hlk, Option.bind_some, cellAt, Row.r, List.getElem?_map, hv, Option.map_some]
  rw [if_pos (plain1_r1 ι (h1 v (List.mem_of_getElem? hv)))]
/-- rows that a callee left: what was read reads on, and they read as they are -/
structure New (F : Mem) (Y : List (Nat × Row)) : Prop where
  le : F.le (F.add Y)
  rows : ∀ x ∈ Y, ∀ (o : Nat) (u : Value), x.2.cs[o]? = some u → look (F.add Y) ⟨x.1, o, none⟩ = some u
  ids : ∀ x ∈ Y, F.w0.heap.size ≤ x.1
  nodup : (Y.map Prod.fst ++ F.ch.map Prod.fst).Nodup
theorem St.new_ {ι : Nat → Nat} {K : Own} {F : Mem} {X : List (Nat × Row)} {w : World} (h : St (F.add X) ι K w) (hp : ∀ x ∈ X, ∀ u ∈ x.2.cs, plain1 u = true) : New F X := by
  have hnd : (X.map Prod.fst ++ F.ch.map Prod.fst).Nodup := by
    have := (List.nodup_append.1 h.nodup).2.1
    simpa [Mem.add] using this
  refine ⟨h.le_add, fun x hx o u hu => ?_, fun x hx => (h.ext x (List.mem_append_left _ hx)).1, hnd⟩
  have hlk : (F.add X).ch.lookup x.1 = some x.2 := mem_lookup (by simpa [Mem.add] using hnd) (List.mem_append_left _ hx)
  have hB := (h.ext x (List.mem_append_left _ hx)).1
  unfold look
  have hnb : ¬ (x.1 < (F.add X).w0.heap.size) := by simp only [Mem.add] at hB ⊢; omega
  simp only [hnb, if_false, hlk, Option.bind_some, cellAt, hu]
  rw [if_pos (hp x hx u (List.mem_of_getElem? hu))]
end Go.Proofs.Ytbeblgjibfoanaa.Am
