-- Lean text written by this session's own program (wip/tools/myrow.py) for this claim
import Derived.Test.YtldcgkkbmnahiaaRows
import Derived.Test.YtldcgkkbmnahiaaPxx22
import Derived.Test.YtldcgkkbmnahiaaOc
import Derived.Test.YtldcgkkbmnahiaaPureCmapSends
import Derived.WalkKit
import Derived.ProofKit
import Derived.OpenShut
import Derived.ShutString
import Derived.ChangeOld
import Derived.Below
import Derived.SizedLaws
namespace Go.Proofs.Ytldcgkkbmnahiaa.cmapSends
open Go.ChangeShapes Go.WideShapes Go.ChangeAt Go.RowKit
open Go.ChangeMaps (open_string shut_string)
open Go.Proofs.YtldcgkkbmnahiaaW.PrintWords
set_option linter.unusedVariables false
theorem own : ownKnob Try.prog.godebug = none := by kernel_rfl
theorem laidOut : laidOutB Try.prog = true := by kernel_rfl
set_option maxRecDepth 100000 in
theorem lifted (os : Os) (started : os.Started) (H : Type) (enc : TypeId × Value → H) :
    ReturnsInHanded {} Try.checked os 7 .any (Rows.cmapSendsSpec.pre6 enc Try.prog Try.f7 Rows.cmapSendsRow.domain false) (Rows.cmapSendsSpec.post enc Try.prog Try.f7 false true false false) := by
  refine returnsInHanded_of_change_sized (C := Try.checked) own started (by kernel_rfl) Try.func7
    (ChangeSpec.witness6 (enc := enc) (C := Try.checked) false ⟨#[], #[.agg #[.slice none 0 0, .slice none 0 0, .slice none 0 0, .int .i64 0]], []⟩ 8 (by kernel_rfl) (by kernel_rfl) (by kernel_rfl) (by kernel_rfl)) ?_
  intro W base args ds gs before hval0 hW hcnd hsz0 _
  have hsz : (DataW.weightsEach Try.prog (Try.f7.params.toList ++ Rows.cmapSendsSpec.plain.varTypes Try.prog) (ds ++ gs)).all (· ≤ reachBytes) = true := hsz0
  have hval : ∀ (j : Nat) t v, Try.f7.params[j]? = some t → args[j]? = some v → Value.okWide Try.prog W .any base t v := hval0
  have hW' := hW
  obtain ⟨p, q, hA0, hV, rfl, hfz, hnd⟩ := hW
  have hA : DataW.TrodAll enc Try.prog W 0 (fun _ => true) true Try.f7.params.toList args.toList ds p := hA0
  rw [Try.params7] at hA hval hsz
  obtain ⟨v0, vs0, d0, ds0, p0, q0, hargs, rfl, rfl, h0, r0⟩ := trodAll_cons hA
  obtain ⟨rfl, rfl, rfl⟩ := trodAll_nil r0
  obtain rfl : args = #[v0] := by cases args; simp_all
  obtain ⟨rfl, rfl⟩ := trodVars_none hV
  obtain ⟨cs0, rfl, hcs0⟩ := okWide_struct Try.underlying42 (hval 0 42 v0 rfl rfl)
  have k0 := h0
  have lt0 : ∀ x ∈ p0, x.block < W.heap.size := by obtain ⟨m, hm⟩ := k0; exact DataW.trod_lt m _ _ _ hm
  obtain ⟨u0, uK0, uG0⟩ := Px.opened (enc := enc) (W := W) Px.op42 h0 (Px.weigh hsz (j := 0) (t := 42) rfl rfl)
  obtain ⟨x0_0, y0_0, ex0_0, ⟨A0_0, c0_0, e0_0, hc0_0, hC0_0⟩, x0_1, y0_1, ex0_1, ⟨A0_1, c0_1, e0_1, hc0_1, hC0_1⟩, x0_2, y0_2, ex0_2, ⟨A0_2, c0_2, e0_2, hc0_2, hC0_2⟩, e0_3⟩ := uK0
  obtain rfl : cs0 = #[.slice A0_0 u0.1.length c0_0, .slice A0_1 u0.2.1.length c0_1, .slice A0_2 u0.2.2.1.length c0_2, .int .i64 u0.2.2.2] := by
    apply Array.ext'
    have hx_ : cs0.toList = _ := ex0_0
    rw [hx_]
    simp [ex0_1, ex0_2, e0_0, e0_1, e0_2]
    exact e0_3
  clear hA0 hval0 hsz0 hsz
  obtain ⟨k, hk⟩ := Pure.CmapSends u0.1 u0.2.1 u0.2.2.1 u0.2.2.2 uG0.2.2.2 (by have := uG0.1.2; omega)
  refine (Px.colophonlaw11_CmapSends.calls k _ _ u0.1 _ _ u0.2.1 _ _ u0.2.2.1 u0.2.2.2 true W hC0_0 hc0_0 hC0_1 hc0_1 hC0_2 hc0_2 hk).mono fun e W' ⟨he, bel⟩ => ?_
  subst he
  exact ⟨_, rfl, _, _, _, [], _, [], hW', trodAll_mk1 (shut_bool Try.underlying4 _), (trodAll_cons_mk (Below.trod laidOut (by kernel_rfl) (of_decide_eq_true (by kernel_rfl)) k0 bel lt0) trodAll_mk0), rfl, bel.frame _, fun h => by cases h⟩
theorem over : Rows.cmapSendsRow.holds Try.pinned (OpenSpec.ofChange Rows.cmapSendsSpec) :=
  OpenClaim.holds_of_wide 7 Try.f7 rfl rfl rfl rfl rfl rfl rfl ⟨rfl, rfl, rfl, rfl, rfl⟩ rfl rfl rfl rfl rfl (by kernel_rfl) Try.func7 (by kernel_rfl)
    (of_decide_eq_true (by kernel_rfl)) (by unfold Func.isWrapper; first | (rw [if_pos (by decide +kernel)]; kernel_rfl) | (rw [if_neg (by decide +kernel)]; exact ⟨rfl, rfl⟩))
    (fun os started H enc _ => lifted os started H enc)
theorem proved : Rows.CmapSendsSaid := over
#print axioms proved
end Go.Proofs.Ytldcgkkbmnahiaa.cmapSends
namespace Go.Proofs.Ytldcgkkbmnahiaa
/-- The row, under a short name, for the claim. -/
theorem cmapSends_holds : Rows.CmapSendsSaid := cmapSends.proved
end Go.Proofs.Ytldcgkkbmnahiaa
