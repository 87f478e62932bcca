/- The row of BreaksLines: the walk law7_C, over what is handed in. -/
import Derived.Test.YtbeblgjibfoanaaRows
import Derived.Test.YtbeblgjibfoanaaL7
import Derived.Test.YtbeblgjibfoanaaO2
import Derived.WalkKit
import Derived.ProofKit
import Derived.OpenShut
import Derived.ShutString
import Derived.ChangeOld
import Derived.Below
import Derived.SizedLaws
namespace Go.Proofs.Ytbeblgjibfoanaa.breaksLines
open Go.ChangeShapes Go.WideShapes Go.ChangeAt Go.RowKit
set_option linter.unusedVariables false
theorem own : ownKnob Try.prog.godebug = none := by kernel_rfl
theorem laidOut : laidOutB Try.prog = true := by kernel_rfl
set_option maxRecDepth 100000 in
theorem lifted (os : Os) (started : os.Started) (H : Type) (enc : TypeId × Value → H) :
    ReturnsInHanded {} Try.checked os 7 .any (Rows.breaksLinesSpec.pre6 enc Try.prog Try.f7 Rows.breaksLinesRow.domain false) (Rows.breaksLinesSpec.post enc Try.prog Try.f7 false true false false) := by
  refine returnsInHanded_of_change_sized (C := Try.checked) own started (by kernel_rfl) Try.func7
    (ChangeSpec.witness6 (enc := enc) (C := Try.checked) false ⟨#[], #[.slice none 0 0, .agg #[.int .i64 0, .int .i64 0], .agg #[.int .i64 0, .int .i64 0, .int .i64 0, .int .i64 0, .int .i64 0]], []⟩ 8 (by kernel_rfl) (by kernel_rfl) (by kernel_rfl) (by kernel_rfl)) ?_
  intro W base args ds gs before hval0 hW hcnd hsz0 _
  have hsz : (DataW.weightsEach Try.prog (Try.f7.params.toList ++ Rows.breaksLinesSpec.plain.varTypes Try.prog) (ds ++ gs)).all (· ≤ reachBytes) = true := hsz0
  have hval : ∀ (j : Nat) t v, Try.f7.params[j]? = some t → args[j]? = some v → Value.okWide Try.prog W .any base t v := hval0
  have hW' := hW
  obtain ⟨p, q, hA0, hV, rfl, hfz, hnd⟩ := hW
  have hA : DataW.TrodAll enc Try.prog W 0 (fun _ => true) true Try.f7.params.toList args.toList ds p := hA0
  rw [Try.params7] at hA hval hsz
  obtain ⟨v0, vs0, d0, ds0, p0, q0, hargs, rfl, rfl, h0, r0⟩ := trodAll_cons hA
  obtain ⟨v1, vs1, d1, ds1, p1, q1, rfl, rfl, rfl, h1, r1⟩ := trodAll_cons r0
  obtain ⟨v2, vs2, d2, ds2, p2, q2, rfl, rfl, rfl, h2, r2⟩ := trodAll_cons r1
  obtain ⟨rfl, rfl, rfl⟩ := trodAll_nil r2
  obtain rfl : args = #[v0, v1, v2] := by cases args; simp_all
  obtain ⟨rfl, rfl⟩ := trodVars_none hV
  have k0 := h0
  have k1 := h1
  have k2 := h2
  have lt0 : ∀ x ∈ p0, x.block < W.heap.size := by obtain ⟨m, hm⟩ := k0; exact DataW.trod_lt m _ _ _ hm
  have lt1 : ∀ x ∈ p1, x.block < W.heap.size := by obtain ⟨m, hm⟩ := k1; exact DataW.trod_lt m _ _ _ hm
  have lt2 : ∀ x ∈ p2, x.block < W.heap.size := by obtain ⟨m, hm⟩ := k2; exact DataW.trod_lt m _ _ _ hm
  have s0 := Am.okWide_spot Try.underlying22 (hval 0 22 v0 rfl rfl)
  obtain ⟨a0, n0, c0, rfl⟩ := okWide_slice Try.underlying22 (hval 0 22 v0 rfl rfl)
  obtain ⟨cs1, rfl, hcs1⟩ := okWide_struct Try.underlying52 (hval 1 52 v1 rfl rfl)
  obtain ⟨cs2, rfl, hcs2⟩ := okWide_struct Try.underlying24 (hval 2 24 v2 rfl rfl)
  obtain ⟨m0, h0⟩ := h0
  obtain ⟨m1, h1⟩ := h1
  obtain ⟨m2, h2⟩ := h2
  obtain ⟨v, l, e0, hv, hgl⟩ := Am.open_items h0 (Am.weigh hsz (j := 0) (t := 22) rfl rfl) (fun b o s n c e => by
    have e' : [Value.slice a0 n0 c0] = [.slice (some ⟨b, o, some s⟩) n c] := e
    simp only [List.cons.injEq, Value.slice.injEq, and_true] at e'
    have := s0 ⟨b, o, some s⟩ n0 c0 (by rw [e'.1])
    cases this)
  obtain rfl : Value.slice a0 n0 c0 = v := by
    have e' : [Value.slice a0 n0 c0] = [v] := e0
    exact (List.cons.inj e').1
  obtain ⟨a, b, hab⟩ := Am.open_pair h1
  have hab' : Value.agg cs1 = .agg #[.int .i64 a, .int .i64 b] := by rw [← hab]; rfl
  obtain ⟨x, hx⟩ := Am.open_par h2
  have hx' : Value.agg cs2 = x.v := by rw [← hx]; rfl
  have hv2 : Am.cV id (.slice a0 n0 c0) = .slice a0 n0 c0 := by
    cases a0 with
    | none => rfl
    | some a =>
      have := s0 a n0 c0 rfl
      obtain ⟨b, o, s⟩ := a
      simp only at this
      subst this
      rfl
  have hrun := Am.C0.run (Am.law7_C ⟨W, []⟩ _ l a b x hv hgl) (by simp only [List.map_cons, List.map_nil, hv2]; rfl) rfl
  rw [← hx', ← hab'] at hrun
  clear hval0 hsz0 hsz hA0
  refine Calls.mono hrun fun e W' ⟨he, bel⟩ => ?_
  subst he
  exact ⟨_, rfl, _, _, _, [], _, [], hW', trodAll_mk1 (shut_bool Try.underlying4 _), (trodAll_cons_mk (Below.trod laidOut (by kernel_rfl) (of_decide_eq_true (by kernel_rfl)) k0 bel lt0) (trodAll_cons_mk (Below.trod laidOut (by kernel_rfl) (of_decide_eq_true (by kernel_rfl)) k1 bel lt1) (trodAll_cons_mk (Below.trod laidOut (by kernel_rfl) (of_decide_eq_true (by kernel_rfl)) k2 bel lt2) trodAll_mk0))), rfl, bel.frame _, fun h => by cases h⟩
theorem over : Rows.breaksLinesRow.holds Try.pinned (OpenSpec.ofChange Rows.breaksLinesSpec) :=
  OpenClaim.holds_of_wide 7 Try.f7 rfl rfl rfl rfl rfl rfl rfl ⟨rfl, rfl, rfl, rfl, rfl⟩ rfl rfl rfl rfl rfl (by kernel_rfl) Try.func7 (by kernel_rfl)
    (of_decide_eq_true (by kernel_rfl)) (by unfold Func.isWrapper; first | (rw [if_pos (by decide +kernel)]; kernel_rfl) | (rw [if_neg (by decide +kernel)]; exact ⟨rfl, rfl⟩))
    (fun os started H enc _ => lifted os started H enc)
theorem proved : Rows.BreaksLinesSaid := over
#print axioms proved
end Go.Proofs.Ytbeblgjibfoanaa.breaksLines
namespace Go.Proofs.Ytbeblgjibfoanaa
/-- The row, under a short name, for the claim. -/
theorem breaksLines_holds : Rows.BreaksLinesSaid := breaksLines.proved
end Go.Proofs.Ytbeblgjibfoanaa
