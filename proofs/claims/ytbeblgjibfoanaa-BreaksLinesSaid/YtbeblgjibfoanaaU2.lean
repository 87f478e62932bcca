/- Contracts: items -/
import Derived.Test.YtbeblgjibfoanaaU1
namespace Go.Proofs.Ytbeblgjibfoanaa.Am
set_option linter.unusedSimpArgs false
set_option linter.unusedVariables false
set_option maxRecDepth 100000
set_option maxHeartbeats 4000000
open Go Go.RowKit
structure Item where
  kind : Int
  width : Int
  stretch : Int
  shrink : Int
  cost : Int
  flag : Bool
  font : Int
  size : Int
  link : Int
  run : Int
  glyphs : List Int
deriving instance DecidableEq for Item
def Item.cells (x : Item) (g : Value) : List Value := [.int .i64 x.kind, .int .i64 x.width, .int .i64 x.stretch, .int .i64 x.shrink, .int .i64 x.cost, .bool x.flag, .int .i64 x.font, .int .i64 x.size, .int .i64 x.link, .int .i64 x.run, g]
theorem lookN_at {F : Mem} {a : Addr} {n : Nat} {cs : List Value} (h : lookN F a n = some cs) (j : Nat) {v : Value} (hv : cs[j]? = some v) : look F (addA a j) = some v := (lookN_spec h).2 j v hv
/-- an item's glyphs: of none, the address may be any -/
def RGl (F : Mem) (g : Value) (xs : List Int) : Prop := RInts F g xs ∨ ∃ b o s, g = .slice (some ⟨b, o, some (s + 1)⟩) 0 0 ∧ xs = []
theorem RGl.le {F F' : Mem} {v : Value} {xs : List Int} (h : RGl F v xs) (hl : F.le F') : RGl F' v xs := by
  rcases h with h | h
  · exact .inl (h.le hl)
  · exact .inr h
/-- a slice of items, told by what stands in it -/
def RItems (F : Mem) (v : Value) (l : List Item) : Prop :=
  (∃ b off c, v = .slice (some ⟨b, off, none⟩) l.length c ∧ l.length ≤ 9223372036854775807 ∧ ∀ i x, l[i]? = some x → ∃ g, lookN F ⟨b, off + i * 11, none⟩ 11 = some (x.cells g) ∧ RGl F g x.glyphs) ∨ (v = .slice none 0 0 ∧ l = [])
theorem RItems.le {F F' : Mem} {v : Value} {l : List Item} (h : RItems F v l) (hl : F.le F') : RItems F' v l := by
  have aux : ∀ n a cs, lookN F a n = some cs → lookN F' a n = some cs := by
    intro n
    induction n with
    | zero => intro a cs h; exact h
    | succ n ih =>
      intro a cs h
      simp only [lookN] at h ⊢
      split at h <;> try (simp at h; done)
      rename_i v hv
      split at h <;> try (simp at h; done)
      rename_i cs' hcs
      rw [hl _ _ hv, ih _ _ hcs]; exact h
  rcases h with ⟨b, off, c, h1, h2, h3⟩ | h
  · exact .inl ⟨b, off, c, h1, h2, fun i x hx => by obtain ⟨g, hg, hr⟩ := h3 i x hx; exact ⟨g, aux _ _ _ hg, hr.le hl⟩⟩
  · exact .inr h
def Item.dflt : Item := ⟨0, 0, 0, 0, 0, false, 0, 0, 0, 0, []⟩
def at_ (l : List Item) (i : Nat) : Item := l.getD i Item.dflt
theorem at_get {l : List Item} {i : Nat} (h : i < l.length) : l[i]? = some (at_ l i) := by simp [at_, List.getD_eq_getElem?_getD, List.getElem?_eq_getElem h]
/-- a slice of no items or some, each of whose cells is told -/
theorem RItems.cases {F : Mem} {v : Value} {l : List Item} (h : RItems F v l) : (∃ b off c, v = .slice (some ⟨b, off, none⟩) l.length c ∧ l.length ≤ 9223372036854775807 ∧ ∀ i, i < l.length →
    look F ⟨b, off + i * 11 + 0, none⟩ = some (.int .i64 (at_ l i).kind) ∧ look F ⟨b, off + i * 11 + 1, none⟩ = some (.int .i64 (at_ l i).width) ∧ look F ⟨b, off + i * 11 + 2, none⟩ = some (.int .i64 (at_ l i).stretch) ∧ look F ⟨b, off + i * 11 + 3, none⟩ = some (.int .i64 (at_ l i).shrink) ∧ look F ⟨b, off + i * 11 + 4, none⟩ = some (.int .i64 (at_ l i).cost) ∧ look F ⟨b, off + i * 11 + 5, none⟩ = some (.bool (at_ l i).flag) ∧
    ∃ g, lookN F ⟨b, off + i * 11, none⟩ 11 = some ((at_ l i).cells g) ∧ RGl F g (at_ l i).glyphs) ∨ (v = .slice none 0 0 ∧ l = []) := by
  rcases h with ⟨b, off, c, h1, h2, h3⟩ | h
  · refine .inl ⟨b, off, c, h1, h2, fun i hi => ?_⟩
    obtain ⟨g, hg, hr⟩ := h3 i _ (at_get hi)
    exact ⟨lookN_at hg 0 rfl, lookN_at hg 1 rfl, lookN_at hg 2 rfl, lookN_at hg 3 rfl, lookN_at hg 4 rfl, lookN_at hg 5 rfl, g, hg, hr⟩
  · exact .inr h
def Item.ok (x : Item) : Bool := decide (1 ≤ x.kind ∧ x.kind ≤ 3 ∧ 0 ≤ x.width ∧ x.width ≤ 1073741824 ∧ 0 ≤ x.stretch ∧ x.stretch ≤ 1073741824 ∧ 0 ≤ x.shrink ∧ x.shrink ≤ 1073741824 ∧ -10000 ≤ x.cost ∧ x.cost ≤ 10000)
def goodL (l : List Item) : Bool := decide (1 ≤ l.length ∧ l.length ≤ 1024) && l.all Item.ok && decide ((at_ l 0).kind = 1) && decide ((at_ l (l.length - 1)).kind = 3) && decide ((at_ l (l.length - 1)).cost = -10000)
def forceB (x : Item) : Bool := decide (x.kind = 3 ∧ x.cost = -10000)
/-- a value of items, by itself -/
def SlV (g : Value) : Prop := (∃ b o n c, g = .slice (some ⟨b, o, none⟩) n c) ∨ ∃ n c, g = .slice none n c
theorem RInts.sl {F : Mem} {g : Value} {xs : List Int} (h : RInts F g xs) : SlV g := by
  rcases h with ⟨b, off, c, h1, _⟩ | ⟨h, _⟩
  · exact .inl ⟨b, off, _, c, h1⟩
  · exact .inr ⟨_, _, h⟩
/-- an item's own slice, wherever it lies -/
def SlG (g : Value) : Prop := SlV g ∨ ∃ b o s n c, g = .slice (some ⟨b, o, some (s + 1)⟩) n c
theorem RGl.sl {F : Mem} {g : Value} {xs : List Int} (h : RGl F g xs) : SlG g := by
  rcases h with h | ⟨b, o, s, h, _⟩
  · exact .inl h.sl
  · exact .inr ⟨b, o, s, 0, 0, h⟩
theorem force_C (F : Mem) (x : Item) (g : Value) (hg : SlG g) : C0 Try.prog 54 [.agg ⟨x.cells g⟩] F (.bool (forceB x)) := by
  rcases hg with (⟨b, o, n, c, rfl⟩ | ⟨n, c, rfl⟩) | ⟨b, o, gsp, n, c, rfl⟩ <;> refine C.go hT Try.func54 Try.ntmps54 ?_
  all_goals (repeat' (first | refine st ?_ | refine nl ?_ | refine sq ?_ | refine rg ?_ | refine bl ?_ | refine sk ?_ | refine bk ?_ | refine bx ?_ | refine al ?_ | refine so ?_ | refine mk ?_ | refine ex ?_ | refine lb ?_ | refine cT ?_ | refine cF ?_ | refine sg ?_ | refine sp ?_ | refine su ?_ | refine gD (fun _ => ?_) (fun _ => ?_) | refine gN (fun _ => ?_) (fun _ => ?_) | refine cD (fun _ => ?_) (fun _ => ?_) | refine cN (fun _ => ?_) (fun _ => ?_)))
  all_goals (refine rt ⟨?_, rfl⟩; simp only [forceB, Value.bool.injEq, eq_comm (a := false), eq_comm (a := true), decide_eq_true_eq, decide_eq_false_iff_not, decide_eq_decide]; omega)
theorem rforced_C (F : Mem) (x : Item) (g : Value) (hg : SlG g) : C0 Try.prog 46 [.agg ⟨x.cells g⟩] F (.bool (forceB x)) := by
  rcases hg with (⟨b, o, n, c, rfl⟩ | ⟨n, c, rfl⟩) | ⟨b, o, gsp, n, c, rfl⟩ <;> refine C.go hT Try.func46 Try.ntmps46 ?_
  all_goals (repeat' (first | refine st ?_ | refine nl ?_ | refine sq ?_ | refine rg ?_ | refine bl ?_ | refine sk ?_ | refine bk ?_ | refine bx ?_ | refine al ?_ | refine so ?_ | refine mk ?_ | refine ex ?_ | refine lb ?_ | refine cT ?_ | refine cF ?_ | refine sg ?_ | refine sp ?_ | refine su ?_ | refine gD (fun _ => ?_) (fun _ => ?_) | refine gN (fun _ => ?_) (fun _ => ?_) | refine cD (fun _ => ?_) (fun _ => ?_) | refine cN (fun _ => ?_) (fun _ => ?_)))
  all_goals (refine rt ⟨?_, rfl⟩; simp only [forceB, Value.bool.injEq, eq_comm (a := false), eq_comm (a := true), decide_eq_true_eq, decide_eq_false_iff_not, decide_eq_decide]; omega)
def costB (x : Item) : Int := if x.kind = 3 then x.cost else 0
def flagB (x : Item) : Bool := decide (x.kind = 3) && x.flag
theorem rcost_C (F : Mem) (x : Item) (g : Value) (hg : SlG g) : C0 Try.prog 50 [.agg ⟨x.cells g⟩] F (.int .i64 (costB x)) := by
  rcases hg with (⟨b, o, n, c, rfl⟩ | ⟨n, c, rfl⟩) | ⟨b, o, gsp, n, c, rfl⟩ <;> refine C.go hT Try.func50 Try.ntmps50 ?_
  all_goals (repeat' (first | refine st ?_ | refine nl ?_ | refine sq ?_ | refine rg ?_ | refine bl ?_ | refine sk ?_ | refine bk ?_ | refine bx ?_ | refine al ?_ | refine so ?_ | refine mk ?_ | refine ex ?_ | refine lb ?_ | refine cT ?_ | refine cF ?_ | refine sg ?_ | refine sp ?_ | refine su ?_ | refine gD (fun _ => ?_) (fun _ => ?_) | refine gN (fun _ => ?_) (fun _ => ?_) | refine cD (fun _ => ?_) (fun _ => ?_) | refine cN (fun _ => ?_) (fun _ => ?_)))
  all_goals (refine rt ⟨?_, rfl⟩; simp only [costB, *, if_true, if_false])
theorem rflag_C (F : Mem) (x : Item) (g : Value) (hg : SlG g) : C0 Try.prog 52 [.agg ⟨x.cells g⟩] F (.bool (flagB x)) := by
  rcases hg with (⟨b, o, n, c, rfl⟩ | ⟨n, c, rfl⟩) | ⟨b, o, gsp, n, c, rfl⟩ <;> refine C.go hT Try.func52 Try.ntmps52 ?_
  all_goals (repeat' (first | refine st ?_ | refine nl ?_ | refine sq ?_ | refine rg ?_ | refine bl ?_ | refine sk ?_ | refine bk ?_ | refine bx ?_ | refine al ?_ | refine so ?_ | refine mk ?_ | refine ex ?_ | refine lb ?_ | refine cT ?_ | refine cF ?_ | refine sg ?_ | refine sp ?_ | refine su ?_ | refine gD (fun _ => ?_) (fun _ => ?_) | refine gN (fun _ => ?_) (fun _ => ?_) | refine cD (fun _ => ?_) (fun _ => ?_) | refine cN (fun _ => ?_) (fun _ => ?_)))
  all_goals (refine rt ⟨?_, rfl⟩; simp [flagB, *])

end Go.Proofs.Ytbeblgjibfoanaa.Am
