/- The closures of cmap.spans, and the list that they come to. No condition beyond what each lemma says. -/
import Derived.Test.YtldcgkkbmnahiaaTa
import Derived.OneCell
namespace Go.Proofs.Ytldcgkkbmnahiaa.Px
set_option linter.unusedSimpArgs false
set_option linter.unusedVariables false
open Go.RowKit Go.Proofs.YtldcgkkbmnahiaaW.PrintWords Go.Proofs.YtldcgkkbmnahiaaW.PrintLast Go.Proofs.YtldcgkkbmnahiaaW.PrintMore


set_option maxHeartbeats 4000000 in
set_option maxRecDepth 100000 in
/-- the list, as it stands -/
theorem list_calls (w0 W : World) (g : Nat) (xs : List S47) (hA : Acc w0 W g xs) (hB : Below w0.heap.size w0 W) :
    Calls Try.prog 36 #[.pointer (some ⟨g, 0, none⟩)] W fun e W' => ∃ v : Value, e = .returned v ∧ Kd.R k47 47 W' w0.heap.size (fun _ => True) v xs ∧ Below w0.heap.size w0 W' := by
  obtain ⟨v, hv, hg, hR⟩ := hA
  obtain ⟨A, cap, rfl⟩ := Kd.R_slice hR
  have HO := Aside0.mk hR
  have HB := Aside0.mk hB
  have hcell : W.cell? ⟨g, 0, none⟩ = some (.slice A xs.length cap) := (blk_cell hv 0).trans rfl
  clear hv hg hR hB
  go_enter Try.func36, Try.ntmps36
  go_wp2
  go_ret
  exact ⟨_, rfl, Kd.R_mono HO.out (fun _ _ => trivial), HB.out⟩

set_option maxHeartbeats 4000000 in
set_option maxRecDepth 100000 in
/-- two closures over one new variable, that holds nothing -/
theorem spans_calls (w : World) :
    Calls Try.prog 20 #[] w fun e w' => ∃ g : Nat, e = .returned (.tuple #[.func (.func 35) #[] #[.pointer (some ⟨g, 0, none⟩)], .func (.func 36) #[] #[.pointer (some ⟨g, 0, none⟩)]]) ∧ Acc w w' g [] ∧ Below w.heap.size w w' := by
  go_enter Try.func20, Try.ntmps20
  go_wp2
  go_ret2
  exact ⟨_, rfl, ⟨_, heap_alloc_new w _, Nat.le_refl _, Kd.R_nil _ _ _ _ _⟩, (Below.refl _ _).alloc (Nat.le_refl _) _⟩

end Go.Proofs.Ytldcgkkbmnahiaa.Px
