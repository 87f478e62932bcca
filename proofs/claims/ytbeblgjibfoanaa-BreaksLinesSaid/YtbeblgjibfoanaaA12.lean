/- Rules for walking Go functions with memory told by tags (A12). -/
import Derived.Test.YtbeblgjibfoanaaA11
namespace Go.Proofs.Ytbeblgjibfoanaa.Am
set_option linter.unusedSimpArgs false
set_option linter.unusedVariables false
open Go Go.RowKit
/-! append -/
/-- what is appended: m elements, of the cells news -/
structure App (P : Program) (F : Mem) (K : Own) (sz : Nat) (xv : Value) (m : Nat) (news : List Value) : Prop where
  len : news.length = m * sz
  one : ∀ v ∈ news, v.oneCell' = true
  lenOf : ∀ ι w, (Builtin.lenOf (cV ι xv)).run P w = .ok m w
  cells : ∀ ι w, St F ι K w → (Builtin.firstCells sz m (cV ι xv)).run P w = .ok (news.map (c1 ι)).toArray w
section
variable {P : Program} {F : Mem} {K : Own}
theorem App.nil (c : Nat) (sz : Nat) : App P F K sz (.slice none 0 c) 0 [] :=
  ⟨by simp, fun v h => by simp at h, fun ι w => by simp [Builtin.lenOf], fun ι w _ => by simp [Builtin.firstCells]⟩
theorem rdN_one {F : Mem} {ι : Nat → Nat} {K : Own} {w : World} (h : St F ι K w) {a : Addr} {n : Nat} {cs : List Value} (hv : rdN F K a n = some cs) : ∀ v ∈ cs, v.oneCell' = true := by
  obtain ⟨b, o, s⟩ := a
  rcases s with _ | _ | s
  · obtain ⟨h1, h2⟩ := lookN_spec (show lookN F ⟨b, o, none⟩ n = some cs from hv)
    intro v hv
    obtain ⟨j, hj⟩ := List.getElem?_of_mem hv
    obtain ⟨_, h4⟩ := h.look_cell (a := addA ⟨b, o, none⟩ j) rfl (h2 j v hj) ι
    cases v <;> first | rfl | simp [plain1] at h4
  · simp only [rdN] at hv
    split at hv <;> try (simp at hv; done)
    rename_i r hr
    split at hv <;> try (simp at hv; done)
    simp only [Option.some.injEq] at hv
    subst hv
    intro v hv
    have hv' := List.mem_of_mem_drop (List.mem_of_mem_take hv)
    obtain ⟨_, hh, _⟩ := h.own _ (lookup_mem hr)
    obtain ⟨junk, fr, _, _, _, h1⟩ := hh
    have := h1 (c1 ι v) (List.mem_append_left _ (List.mem_map.2 ⟨v, hv', rfl⟩))
    rwa [c1_oneCell] at this
  · simp only [rdN] at hv
    split at hv
    · simp only [Option.some.injEq] at hv
      subst hv
      intro v hv; cases hv
    · cases hv
/-- of a row, read -/
theorem App.slice {a : Addr} {m c sz : Nat} {news : List Value} (hv : rdN F K a (m * sz) = some news) (h1 : ∀ v ∈ news, v.oneCell' = true) (hl : news.length = m * sz) : App P F K sz (.slice (some a) m c) m news := by
  refine ⟨hl, h1, fun ι w => by simp [Builtin.lenOf], fun ι w hS => ?_⟩
  obtain ⟨hl, hc⟩ := hS.rdN hv
  have := run_loadCells_list (P := P) (w := w) (cA ι a) (news.map (c1 ι)) hc
  rw [List.length_map, hl] at this
  simp only [cV_slice, Builtin.firstCells, this]
def bytesV (s : ByteArray) : List Value := s.data.toList.map fun b => .int .u8 b.toNat
theorem bytesV_plain (s : ByteArray) (ι : Nat → Nat) : (bytesV s).map (c1 ι) = bytesV s := by
  unfold bytesV
  rw [List.map_map]
  exact List.map_congr_left fun b _ => rfl
theorem App.string (s : ByteArray) : App P F K 1 (.string s) s.size (bytesV s) := by
  refine ⟨by simp [bytesV], fun v hv => ?_, fun ι w => by simp [Builtin.lenOf], fun ι w _ => ?_⟩
  · obtain ⟨b, _, rfl⟩ := List.mem_map.1 hv; rfl
  · have e : s.extract 0 s.size = s := by
      apply ByteArray.ext; simp
    simp only [cV_string, Builtin.firstCells, bytesV_plain, e, Sem.run_pure]
    congr 1
    apply Array.ext'
    simp [bytesV]
end
section
variable {P : Program} {Θ : Tab} {N : Nat} {D : List Nat} {F : Mem} {K : Own} {L : Slots} {T : Mem → Slots → Own → Prop} (hT : tabOk P Θ = true)
def slB : TyK → Bool
  | .slice _ | .string => true
  | _ => false
/-- a block gets a new tag: one that is new, or one of the call's own that is known by no other tag any more -/
theorem St.re {ι : Nat → Nat} {K0 : Own} {w w' : World} {t g : Nat} {r : Row} (h : St F ι K w) (hsub : K0.Sublist K) (hK : ntK t K = true) (hB : F.w0.heap.size ≤ g) (hg : g ∉ (K0.map fun x => ι x.1) ++ F.ch.map Prod.fst)
    (hn : w.heap.size ≤ w'.heap.size) (hw : ∀ k, k < w.heap.size → k ≠ g → w'.heap[k]? = w.heap[k]?) (hos : w'.os = w.os) (htp : w'.tape = w.tape) (hou : w'.output = w.output) (hr : Holds w' g (r.c (upd ι t g))) (hflat : r.flat = true → ∀ v ∈ r.cs, plain1 v = true) :
    St F (upd ι t g) ((t, r) :: K0) w' := by
  have hmap : (K0.map fun x => upd ι t g x.1) = K0.map fun x => ι x.1 := List.map_congr_left fun x hx => upd_ne ι (h.rowc (b := 0) hK (hsub.subset hx)).1
  have hlt := h.lt_own
  refine ⟨⟨hos.trans h.below.os, htp.trans h.below.tape, hou.trans h.below.output, Nat.le_trans h.below.size hn, fun k hk => ?_⟩, ?_, fun x hx => ?_, fun x hx => ?_⟩
  · rw [hw k (Nat.lt_of_lt_of_le hk h.below.size) (by omega)]; exact h.below.block k hk
  · simp only [List.map_cons, List.cons_append, hmap, upd_eq, List.nodup_cons]
    exact ⟨hg, h.nodup.sublist ((hsub.map _).append (List.Sublist.refl _))⟩
  · rcases List.mem_cons.1 hx with rfl | hx
    · simp only [upd_eq]
      exact ⟨hB, hr, hflat⟩
    · obtain ⟨h1, h2⟩ := h.rowc (b := g) hK (hsub.subset hx)
      obtain ⟨h3, h4, h5⟩ := h.own x (hsub.subset hx)
      rw [upd_ne ι h1, h2]
      refine ⟨h3, h4.congr (hw _ h4.lt fun e => hg ?_), h5⟩
      exact List.mem_append_left _ (List.mem_map.2 ⟨x, hx, e⟩)
  · obtain ⟨h3, h4⟩ := h.ext x hx
    refine ⟨h3, h4.congr (hw _ h4.lt fun e => hg ?_)⟩
    exact List.mem_append_right _ (List.mem_map.2 ⟨x, hx, e⟩)
def delK (t : Nat) (K : Own) : Own := K.filter fun x => x.1 != t
theorem tags_nodup {ι : Nat → Nat} {w : World} (h : St F ι K w) : (K.map Prod.fst).Nodup := by
  have hnd := (List.nodup_append.1 h.nodup).1
  rw [List.nodup_iff_pairwise_ne] at hnd ⊢
  rw [List.pairwise_map] at hnd ⊢
  exact hnd.imp fun h e => h (by rw [e])
theorem nodup_inj {α : Type} {f : α → Nat} : ∀ {l : List α}, (l.map f).Nodup → ∀ x ∈ l, ∀ y ∈ l, f x = f y → x = y
  | [], _, x, hx, _, _, _ => by simp at hx
  | z :: l, h, x, hx, y, hy, e => by
    simp only [List.map_cons, List.nodup_cons] at h
    rcases List.mem_cons.1 hx with rfl | hx' <;> rcases List.mem_cons.1 hy with rfl | hy'
    · rfl
    · exact absurd (List.mem_map.2 ⟨y, hy', e.symm⟩) h.1
    · exact absurd (List.mem_map.2 ⟨x, hx', e⟩) h.1
    · exact nodup_inj h.2 x hx' y hy' e
theorem own_inj {ι : Nat → Nat} {w : World} (h : St F ι K w) {t : Nat} {r : Row} (hr : K.lookup t = some r) : ι t ∉ ((delK t K).map fun x => ι x.1) ++ F.ch.map Prod.fst := by
  intro hm
  have hnd := List.nodup_append.1 h.nodup
  rcases List.mem_append.1 hm with hm | hm
  · obtain ⟨x, hx, e⟩ := List.mem_map.1 hm
    have hx2 := List.mem_filter.1 hx
    have hne : x.1 ≠ t := by simpa using hx2.2
    have := nodup_inj (f := fun x : Nat × Row => ι x.1) hnd.1 x hx2.1 _ (lookup_mem hr) e
    exact hne (by rw [this])
  · exact hnd.2.2 (ι t) (List.mem_map.2 ⟨_, lookup_mem hr, rfl⟩) (ι t) hm rfl
theorem run_append_in {t t' ty e : TypeId} {d' : TypeDesc} {sz n c m : Nat} {a : Addr} {xv : Value} {cells : Array Value} {w w' : World} (hU : P.underlying t = some (.slice e)) (hU' : P.underlying t' = some d') (hd' : ∀ k, d' ≠ .int k)
    (hsz : (sizeOf e).run P w = .ok sz w) (hl : (Builtin.lenOf xv).run P w = .ok m w) (hc : (Builtin.firstCells sz m xv).run P w = .ok cells w) (hle : n + m ≤ c) (hst : (storeCells (a.add (n * sz)) cells.toList).run P w = .ok () w') :
    (Builtin.append_ #[t, t'] ty #[.slice (some a) n c, xv]).run P w = .ok (.slice (some a) (n + m) c) w' := by
  have hint : (match d' with | .int _ => true | _ => false) = false := by cases d' <;> first | rfl | exact absurd rfl (hd' _)
  simp [Builtin.append_, run_underlying hU, run_underlying hU', hsz, hint, hl, hc, hle, hst]
theorem run_append_new {t t' ty e : TypeId} {d' : TypeDesc} {sz n c m : Nat} {base : Option Addr} {xv z : Value} {old cells : Array Value} {inf : TypeInfo} {w : World} (hU : P.underlying t = some (.slice e)) (hU' : P.underlying t' = some d') (hd' : ∀ k, d' ≠ .int k)
    (hsz : ∀ w, (sizeOf e).run P w = .ok sz w) (hinf : ∀ w, (typeInfo e).run P w = .ok inf w) (hz : ∀ w, (zeroValue e).run P w = .ok z w) (hl : (Builtin.lenOf xv).run P w = .ok m w) (hlt : c < n + m) (h63 : n + m ≤ 9223372036854775807) (hby : (n + m) * inf.bytes ≤ 140737488355328)
    (ho : (Builtin.firstCells sz n (.slice base n c)).run P w.drew = .ok old w.drew) (hc : (Builtin.firstCells sz m xv).run P w.drew = .ok cells w.drew) :
    ∃ cap, n + m ≤ cap ∧ cap ≤ 9223372036854775807 ∧ (Builtin.append_ #[t, t'] ty #[.slice base n c, xv]).run P w = .ok (.slice (some ⟨w.heap.size, 0, none⟩) (n + m) cap) (w.drew.alloc (.cells (old ++ cells ++ Builtin.zeroCells z.cells (cap - (n + m))) e)) := by
  have hint : (match d' with | .int _ => true | _ => false) = false := by cases d' <;> first | rfl | exact absurd rfl (hd' _)
  refine ⟨grownCap w (n + m) c e, grownCap_ge w _ _ _, ?_, ?_⟩
  · have := grownCap_le_maxLen w (n + m) c e (by simp only [maxLen]; omega)
    simpa [maxLen] using this
  · have hng : ¬ (n + m ≤ c) := by omega
    have hmax : ¬ (((n + m : Nat) : Int) > IntKind.i64.max) := by
      have : IntKind.i64.max = 9223372036854775807 := by decide
      rw [this]; omega
    have hfit : ¬ (Builtin.nextslicecap (n + m) c * inf.bytes > 2 ^ 48) := by
      have h1 := growslice_fits (bytes := inf.bytes) hlt hby
      have h2 : (2 : Nat) ^ 48 = 281474976710656 := by decide
      rw [h2]; omega
    have hmax' : ¬ (IntKind.i64.max < (n : Int) + (m : Int)) := by
      intro h; apply hmax; push_cast; exact h
    simp [Builtin.append_, run_underlying hU, run_underlying hU', hsz, hint, hl, hng, hinf, hmax', hfit, Question.forced, grownCap, ho, hc, hz, newRow]
    intro h; exact absurd h (by omega)
end
end Go.Proofs.Ytbeblgjibfoanaa.Am
