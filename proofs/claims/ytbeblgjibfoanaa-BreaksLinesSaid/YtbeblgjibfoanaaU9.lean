/- Contracts: Legal -/
import Derived.Test.YtbeblgjibfoanaaU8
namespace Go.Proofs.Ytbeblgjibfoanaa.Am
set_option linter.unusedSimpArgs false
set_option linter.unusedVariables false
set_option maxRecDepth 100000
set_option maxHeartbeats 4000000
open Go Go.RowKit
theorem RItems.forms {F : Mem} {v : Value} {l : List Item} (h : RItems F v l) : (∃ b off c, v = .slice (some ⟨b, off, none⟩) l.length c) ∨ (v = .slice none 0 0 ∧ l = []) := by
  rcases h with ⟨b, off, c, h1, _⟩ | h
  · exact .inl ⟨b, off, c, h1⟩
  · exact .inr h
theorem Legal_C (F : Mem) (v : Value) (l : List Item) (i : Int) (hv : RItems F v l) : C0 Try.prog 23 [v, .int .i64 i] F (.bool (goodL l && legalB l i)) := by
  rcases hv.forms with ⟨b, off, c, rfl⟩ | ⟨rfl, rfl⟩
  · refine C.go hT Try.func23 Try.ntmps23 ?_
    (repeat (first | refine st ?_ | refine nl ?_ | refine sq ?_ | refine rg ?_ | refine bl ?_ | refine sk ?_ | refine bk ?_ | refine bx ?_ | refine al ?_ | refine so ?_ | refine mk ?_ | refine ex ?_ | refine lb ?_ | refine cT ?_ | refine cF ?_ | refine sg ?_ | refine sp ?_ | refine su ?_ | refine cl ?_ (h := by exact fun _ _ hl => IGood_C _ _ l (hv.le hl))))
    refine gB (fun h0 => ?_) (fun h0 => ?_)
    · (repeat (first | refine st ?_ | refine nl ?_ | refine sq ?_ | refine rg ?_ | refine bl ?_ | refine sk ?_ | refine bk ?_ | refine bx ?_ | refine al ?_ | refine so ?_ | refine mk ?_ | refine ex ?_ | refine lb ?_ | refine cT ?_ | refine cF ?_ | refine sg ?_ | refine sp ?_ | refine su ?_))
      refine JL.stepG rfl rfl rfl (Go1.box (t := 10) rfl rfl (by exact Nat.le_of_ble_eq_true rfl) rfl rfl rfl rfl rfl ?_)
      (repeat (first | refine st ?_ | refine nl ?_ | refine sq ?_ | refine rg ?_ | refine bl ?_ | refine sk ?_ | refine bk ?_ | refine bx ?_ | refine al ?_ | refine so ?_ | refine mk ?_ | refine ex ?_ | refine lb ?_ | refine cT ?_ | refine cF ?_ | refine sg ?_ | refine sp ?_ | refine su ?_))
      refine clg ?_ (h := by
        intro ι hV hl
        have hk := hV.look (t := 10) rfl (o := 0) (v := .slice (some ⟨b, off, none⟩) l.length c) rfl
        exact legal_C _ (.pointer (some ⟨ι 10, 0, none⟩)) l i ⟨_, 0, _, rfl, hk, hv.le hl⟩)
      (repeat (first | refine st ?_ | refine nl ?_ | refine sq ?_ | refine rg ?_ | refine bl ?_ | refine sk ?_ | refine bk ?_ | refine bx ?_ | refine al ?_ | refine so ?_ | refine mk ?_ | refine ex ?_ | refine lb ?_ | refine cT ?_ | refine cF ?_ | refine sg ?_ | refine sp ?_ | refine su ?_))
      refine rt ⟨?_, rfl⟩
      simp [h0]
    · (repeat (first | refine st ?_ | refine nl ?_ | refine sq ?_ | refine rg ?_ | refine bl ?_ | refine sk ?_ | refine bk ?_ | refine bx ?_ | refine al ?_ | refine so ?_ | refine mk ?_ | refine ex ?_ | refine lb ?_ | refine cT ?_ | refine cF ?_ | refine sg ?_ | refine sp ?_ | refine su ?_))
      refine rt ⟨?_, rfl⟩
      simp [h0]
  · refine C.go hT Try.func23 Try.ntmps23 ?_
    (repeat (first | refine st ?_ | refine nl ?_ | refine sq ?_ | refine rg ?_ | refine bl ?_ | refine sk ?_ | refine bk ?_ | refine bx ?_ | refine al ?_ | refine so ?_ | refine mk ?_ | refine ex ?_ | refine lb ?_ | refine cT ?_ | refine cF ?_ | refine sg ?_ | refine sp ?_ | refine su ?_ | refine cl ?_ (h := by exact fun _ _ hl => IGood_C _ _ .nil (hv.le hl))))
    exact rt ⟨rfl, rfl⟩

end Go.Proofs.Ytbeblgjibfoanaa.Am
