/- Contracts: which items are good -/
import Derived.Test.YtbeblgjibfoanaaU2
namespace Go.Proofs.Ytbeblgjibfoanaa.Am
set_option linter.unusedSimpArgs false
set_option linter.unusedVariables false
set_option maxRecDepth 100000
set_option maxHeartbeats 4000000
open Go Go.RowKit
theorem all_take {l : List Item} {k : Nat} (h : k < l.length) : (l.take (k + 1)).all Item.ok = ((l.take k).all Item.ok && (at_ l k).ok) := by
  have : l.take (k + 1) = l.take k ++ [at_ l k] := by
    rw [List.take_add_one, at_get h]; rfl
  rw [this, List.all_append]; simp
theorem all_false {l : List Item} {k : Nat} (h : k < l.length) (hf : (at_ l k).ok = false) : l.all Item.ok = false := by
  rw [List.all_eq_false]
  exact ⟨at_ l k, List.mem_of_getElem? (at_get h), by simp [hf]⟩
theorem IGood_C (F : Mem) (v : Value) (l : List Item) (hv : RItems F v l) : C0 Try.prog 33 [v] F (.bool (goodL l)) := by
  rcases hv.cases with ⟨b, off, c, rfl, hlen, hr⟩ | ⟨rfl, rfl⟩
  · refine C.go hT Try.func33 Try.ntmps33 ?_
    (repeat (first | refine st ?_ | refine nl ?_ | refine sq ?_ | refine rg ?_ | refine bl ?_ | refine sk ?_ | refine bk ?_ | refine bx ?_ | refine al ?_ | refine so ?_ | refine mk ?_ | refine ex ?_ | refine lb ?_ | refine cT ?_ | refine cF ?_ | refine sg ?_ | refine sp ?_ | refine su ?_))
    refine gD (fun h0 => ?_) (fun h0 => ?_)
    · (repeat (first | refine st ?_ | refine nl ?_ | refine sq ?_ | refine rg ?_ | refine bl ?_ | refine sk ?_ | refine bk ?_ | refine bx ?_ | refine al ?_ | refine so ?_ | refine mk ?_ | refine ex ?_ | refine lb ?_ | refine cT ?_ | refine cF ?_ | refine sg ?_ | refine sp ?_ | refine su ?_))
      refine rt ⟨?_, rfl⟩
      simp only [Value.bool.injEq, goodL]
      have : ¬ (1 ≤ l.length ∧ l.length ≤ 1024) := by omega
      simp [this]
    · (repeat (first | refine st ?_ | refine nl ?_ | refine sq ?_ | refine rg ?_ | refine bl ?_ | refine sk ?_ | refine bk ?_ | refine bx ?_ | refine al ?_ | refine so ?_ | refine mk ?_ | refine ex ?_ | refine lb ?_ | refine cT ?_ | refine cF ?_ | refine sg ?_ | refine sp ?_ | refine su ?_))
      refine cD (fun h1 => ?_) (fun h1 => ?_)
      · (repeat (first | refine st ?_ | refine nl ?_ | refine sq ?_ | refine rg ?_ | refine bl ?_ | refine sk ?_ | refine bk ?_ | refine bx ?_ | refine al ?_ | refine so ?_ | refine mk ?_ | refine ex ?_ | refine lb ?_ | refine cT ?_ | refine cF ?_ | refine sg ?_ | refine sp ?_ | refine su ?_))
        refine rt ⟨?_, rfl⟩
        simp only [Value.bool.injEq, goodL]
        have : ¬ (1 ≤ l.length ∧ l.length ≤ 1024) := by omega
        simp [this]
      · (repeat (first | refine st ?_ | refine nl ?_ | refine sq ?_ | refine rg ?_ | refine bl ?_ | refine sk ?_ | refine bk ?_ | refine bx ?_ | refine al ?_ | refine so ?_ | refine mk ?_ | refine ex ?_ | refine lb ?_ | refine cT ?_ | refine cF ?_ | refine sg ?_ | refine sp ?_ | refine su ?_))
        refine J.loopS (α := Nat) (fun k => k ≤ l.length ∧ (l.take k).all Item.ok = true) (fun k => [(0, .slice (some ⟨b, off, none⟩) l.length c), (14, .slice (some ⟨b, off, none⟩) l.length c), (15, .int .i64 l.length), (16, .int .i64 k)]) (fun _ => []) (fun k => l.length - k) 0 ⟨Nat.zero_le _, rfl⟩ ⟨rfl, rfl, rfl, rfl, trivial⟩ trivial ?_
        rintro k ⟨hk, hok⟩
        (repeat (first | refine st ?_ | refine nl ?_ | refine sq ?_ | refine rg ?_ | refine bl ?_ | refine sk ?_ | refine bk ?_ | refine bx ?_ | refine al ?_ | refine so ?_ | refine mk ?_ | refine ex ?_ | refine lb ?_ | refine cT ?_ | refine cF ?_ | refine sg ?_ | refine sp ?_ | refine su ?_))
        refine cD (fun h2 => ?_) (fun h2 => ?_)
        · have hkl : k < l.length := by omega
          obtain ⟨r0, r1, r2, r3, r4, r5, g, hg, hri⟩ := hr k hkl
          have hN : rdN F [] ⟨b, off + k * 11, none⟩ 11 = some ((at_ l k).cells g) := hg
          have hx := all_take hkl
          have hxf := all_false (l := l) hkl
          generalize at_ l k = x at *
          rcases hri with (⟨gb, go, gc, rfl, _, _⟩ | ⟨rfl, _⟩) | ⟨gb, go, gsp, rfl, _⟩
          all_goals
            (repeat' (first | refine st ?_ | refine nl ?_ | refine sq ?_ | refine rg ?_ | refine bl ?_ | refine sk ?_ | refine bk ?_ | refine bx ?_ | refine al ?_ | refine so ?_ | refine mk ?_ | refine ex ?_ | refine lb ?_ | refine cT ?_ | refine cF ?_ | refine sg ?_ | refine sp ?_ | refine su ?_ | refine gD (fun _ => ?_) (fun _ => ?_) | refine gN (fun _ => ?_) (fun _ => ?_) | refine cD (fun _ => ?_) (fun _ => ?_) | refine cN (fun _ => ?_) (fun _ => ?_) | refine cl ?_ (h := by exact fun _ _ _ => sized_C _ _) | refine clg ?_ (h := by exact fun _ _ _ => sized_C _ _)))
            all_goals first
              | (refine rt ⟨?_, rfl⟩
                 have hq := hxf (by simp only [Item.ok, decide_eq_false_iff_not]; omega)
                 simp only [Value.bool.injEq, goodL, hq, Bool.and_false, Bool.false_and])
              | (have hq : x.ok = true := by
                   simp only [Item.ok, decide_eq_true_eq]; omega
                 refine J.back ⟨k + 1, by omega, ⟨hkl, by rw [hx, hok, hq]; rfl⟩, rfl, ⟨rfl, rfl, rfl, rfl, trivial⟩, trivial⟩)
        · have hkl : k = l.length := by omega
          subst hkl
          have hl1 : l.length - 1 < l.length := by omega
          obtain ⟨r0, r1, r2, r3, r4, r5, g, hg, hri⟩ := hr _ hl1
          have q0 := (hr 0 (by omega)).1
          have hgd : goodL l = (decide ((at_ l 0).kind = 1) && decide ((at_ l (l.length - 1)).kind = 3) && decide ((at_ l (l.length - 1)).cost = -10000)) := by
            rw [List.take_length] at hok
            have : 1 ≤ l.length ∧ l.length ≤ 1024 := by omega
            simp [goodL, hok, this]
          rw [hgd]
          generalize at_ l (l.length - 1) = x at *
          generalize at_ l 0 = y at *
          clear hr hok hv hgd
          have e1 : ((l.length : Int) - 1).toNat = l.length - 1 := by omega
          rw [← e1] at r0 r1 r2 r3 r4 r5 hg
          have hN : rdN F [] ⟨b, off + ((l.length : Int) - 1).toNat * 11, none⟩ 11 = some (x.cells g) := hg
          rcases hri with (⟨gb, go, gc, rfl, _, _⟩ | ⟨rfl, _⟩) | ⟨gb, go, gsp, rfl, _⟩
          all_goals
            (repeat' (first | refine st ?_ | refine nl ?_ | refine sq ?_ | refine rg ?_ | refine bl ?_ | refine sk ?_ | refine bk ?_ | refine bx ?_ | refine al ?_ | refine so ?_ | refine mk ?_ | refine ex ?_ | refine lb ?_ | refine cT ?_ | refine cF ?_ | refine sg ?_ | refine sp ?_ | refine su ?_ | refine gD (fun _ => ?_) (fun _ => ?_) | refine gN (fun _ => ?_) (fun _ => ?_) | refine cD (fun _ => ?_) (fun _ => ?_) | refine cN (fun _ => ?_) (fun _ => ?_)))
            all_goals (refine rt ⟨?_, rfl⟩; simp [*])
  · refine C.go hT Try.func33 Try.ntmps33 ?_
    (repeat' (first | refine st ?_ | refine nl ?_ | refine sq ?_ | refine rg ?_ | refine bl ?_ | refine sk ?_ | refine bk ?_ | refine bx ?_ | refine al ?_ | refine so ?_ | refine mk ?_ | refine ex ?_ | refine lb ?_ | refine cT ?_ | refine cF ?_ | refine sg ?_ | refine sp ?_ | refine su ?_ | refine gD (fun _ => ?_) (fun _ => ?_) | refine gN (fun _ => ?_) (fun _ => ?_) | refine cD (fun _ => ?_) (fun _ => ?_) | refine cN (fun _ => ?_) (fun _ => ?_)))
    all_goals (exact rt ⟨rfl, rfl⟩)

end Go.Proofs.Ytbeblgjibfoanaa.Am
