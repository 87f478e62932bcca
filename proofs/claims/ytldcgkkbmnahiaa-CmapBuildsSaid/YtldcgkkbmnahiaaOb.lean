/- spans as they are handed in -/
import Derived.Test.YtldcgkkbmnahiaaOa
import Derived.Test.YtldcgkkbmnahiaaPxx0
namespace Go.Proofs.Ytldcgkkbmnahiaa.Px
set_option linter.unusedSimpArgs false
set_option linter.unusedVariables false
open Go.RowKit Go.Proofs.YtldcgkkbmnahiaaW.PrintWords Go.Proofs.YtldcgkkbmnahiaaW.PrintLast Go.Proofs.YtldcgkkbmnahiaaW.PrintMore

section
variable {H : Type} {enc : TypeId × Value → H} {W : World}
/-- a span, as it is handed in -/
theorem op47 : Opens enc Try.prog W 47 k47 (fun x => (Lit.int .i64 x.f0).wf = true ∧ (Lit.int .i64 x.f1).wf = true ∧ (Lit.int .i64 x.f2).wf = true) :=
  opens_iso (f := fun x : S47 => (x.f0, x.f1, x.f2)) (fun p => ⟨p.1, p.2.1, p.2.2⟩) (fun _ => rfl)
    (opens_struct Try.underlying47 (by kernel_rfl) (opensF_cons (opens_int Try.underlying3) (opensF_cons (opens_int Try.underlying3) (opensF_one (opens_int Try.underlying3)))))
/-- a list of spans, as it is handed in -/
theorem op23 : Opens enc Try.prog W 23 (Kd.slice 47 k47) (fun xs => (∀ x ∈ xs, (Lit.int .i64 x.f0).wf = true ∧ (Lit.int .i64 x.f1).wf = true ∧ (Lit.int .i64 x.f2).wf = true) ∧ xs.length * 24 ≤ 140737488351232) :=
  opens_slice 24 Try.underlying23 (by kernel_rfl) (by kernel_rfl) op47
end

end Go.Proofs.Ytldcgkkbmnahiaa.Px
