/- Where the last break lies -/
import Derived.Test.YtbeblgjibfoanaaU6
namespace Go.Proofs.Ytbeblgjibfoanaa.Am
set_option linter.unusedSimpArgs false
set_option linter.unusedVariables false
set_option maxRecDepth 100000
set_option maxHeartbeats 4000000
open Go Go.RowKit
theorem force_last {l : List Item} (h : goodL l = true) : forceB (at_ l (l.length - 1)) = true := by
  simp only [goodL, Bool.and_eq_true, decide_eq_true_eq] at h
  simp [forceB, h.1.2, h.2]
theorem foD_last {l : List Item} (h : goodL l = true) : ∀ d i, i < l.length → l.length ≤ i + d → foD l d i < l.length ∧ forceB (at_ l (foD l d i)) = true
  | 0, i, hi, hd => by omega
  | d + 1, i, hi, hd => by
    simp only [foD]
    split
    · exact ⟨hi, by assumption⟩
    · rename_i hf
      by_cases hl : i + 1 < l.length
      · exact foD_last h d (i + 1) hl (by omega)
      · obtain rfl : i = l.length - 1 := by omega
        exact absurd (force_last h) hf
theorem foA_last {l : List Item} (h : goodL l = true) {i : Nat} (hi : i < l.length) : i ≤ foA l i ∧ foA l i < l.length ∧ forceB (at_ l (foA l i)) = true := by
  have h1 := foD_last h (l.length - i) i hi (by omega)
  exact ⟨(foD_bd l (l.length - i) i).1, h1⟩

end Go.Proofs.Ytbeblgjibfoanaa.Am
