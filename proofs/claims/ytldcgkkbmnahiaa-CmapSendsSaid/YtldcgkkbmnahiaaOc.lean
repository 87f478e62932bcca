/- How groups that are handed in read. -/
import Derived.Test.YtldcgkkbmnahiaaOa
import Derived.Test.YtldcgkkbmnahiaaPxx0
namespace Go.Proofs.Ytldcgkkbmnahiaa.Px
set_option linter.unusedSimpArgs false
set_option linter.unusedVariables false
open Go.RowKit Go.Proofs.YtldcgkkbmnahiaaW.PrintWords Go.Proofs.YtldcgkkbmnahiaaW.PrintLast Go.Proofs.YtldcgkkbmnahiaaW.PrintMore

section
variable {H : Type} {enc : TypeId × Value → H} {W : World}
/-- a list of whole numbers, as it is handed in -/
theorem op40 : Opens enc Try.prog W 40 (Kd.slice 3 (Kd.int .i64)) (fun xs => (∀ x ∈ xs, (Lit.int .i64 x).wf = true) ∧ xs.length * 8 ≤ 140737488351232) :=
  opens_slice 8 Try.underlying40 (by kernel_rfl) (by kernel_rfl) (opens_int Try.underlying3)
/-- groups, as they are handed in -/
theorem op42 : Opens enc Try.prog W 42 (Kd.pair (Kd.slice 3 (Kd.int .i64)) (Kd.pair (Kd.slice 3 (Kd.int .i64)) (Kd.pair (Kd.slice 3 (Kd.int .i64)) (Kd.int .i64)))) (fun x => ((∀ y ∈ x.1, (Lit.int .i64 y).wf = true) ∧ x.1.length * 8 ≤ 140737488351232) ∧ ((∀ y ∈ x.2.1, (Lit.int .i64 y).wf = true) ∧ x.2.1.length * 8 ≤ 140737488351232) ∧ ((∀ y ∈ x.2.2.1, (Lit.int .i64 y).wf = true) ∧ x.2.2.1.length * 8 ≤ 140737488351232) ∧ (Lit.int .i64 x.2.2.2).wf = true) := by
  have h := opensF_cons (enc := enc) (P := Try.prog) (W := W) (f := { name := "Gaps", type := 40, offset := 0, embedded := false, tag := "", pkgPath := "", byteOffset := 0 }) op40 (opensF_cons (f := { name := "Longs", type := 40, offset := 1, embedded := false, tag := "", pkgPath := "", byteOffset := 24 }) op40 (opensF_cons (f := { name := "Glyphs", type := 40, offset := 2, embedded := false, tag := "", pkgPath := "", byteOffset := 48 }) op40 (opensF_one (f := { name := "C", type := 3, offset := 3, embedded := false, tag := "", pkgPath := "", byteOffset := 72 }) (opens_int Try.underlying3))))
  exact opens_struct Try.underlying42 (by kernel_rfl) h
end

end Go.Proofs.Ytldcgkkbmnahiaa.Px
