/- The row of BreaksBest: its walk, over what is handed in. -/
import Derived.Test.YtbeblgjibfoanaaRows
import Derived.Test.YtbeblgjibfoanaaZ5
import Derived.WalkKit
import Derived.ProofKit
import Derived.OpenShut
import Derived.ShutString
import Derived.ChangeOld
import Derived.Below
import Derived.SizedLaws
namespace Go.Proofs.Ytbeblgjibfoanaa.Am
set_option linter.unusedSimpArgs false
set_option linter.unusedVariables false
set_option maxRecDepth 100000
set_option maxHeartbeats 4000000
open Go Go.RowKit
def PlA (a : Option Addr) : Prop := a = none ∨ (∃ b o, a = some ⟨b, o, none⟩) ∨ ∃ b o s, a = some ⟨b, o, some (s + 1)⟩
section
variable {a : Option Addr} (h : PlA a)
include h
theorem PlA.pl (n c : Nat) : plain1 (.slice a n c) = true := by rcases h with rfl | ⟨b, o, rfl⟩ | ⟨b, o, s, rfl⟩ <;> rfl
theorem PlA.nt (t n c : Nat) : nt1 t (.slice a n c) = true := by rcases h with rfl | ⟨b, o, rfl⟩ | ⟨b, o, s, rfl⟩ <;> rfl
theorem PlA.tg (D : List Nat) (n c : Nat) : tg1 D (.slice a n c) = true := by rcases h with rfl | ⟨b, o, rfl⟩ | ⟨b, o, s, rfl⟩ <;> rfl
theorem PlA.r (ι : Nat → Nat) (n c : Nat) : r1 ι (.slice a n c) = .slice a n c := by rcases h with rfl | ⟨b, o, rfl⟩ | ⟨b, o, s, rfl⟩ <;> rfl
theorem PlA.c (ι κ : Nat → Nat) (n c : Nat) : c1 ι (.slice a n c) = c1 κ (.slice a n c) := by rcases h with rfl | ⟨b, o, rfl⟩ | ⟨b, o, s, rfl⟩ <;> rfl
end
theorem PlA.rV {a : Option Addr} (h : PlA a) (ι : Nat → Nat) (n c : Nat) : rV ι (.slice a n c) = .slice a n c := h.r ι n c
theorem SlV.op {g : Value} (h : SlV g) : ∃ a n c, PlA a ∧ g = .slice a n c := by
  rcases h with ⟨b, o, n, c, rfl⟩ | ⟨n, c, rfl⟩
  · exact ⟨_, n, c, .inr (.inl ⟨b, o, rfl⟩), rfl⟩
  · exact ⟨_, n, c, .inl rfl, rfl⟩
theorem C.ofR {P : Program} {f : FuncId} {vs us : List Value} {F : Mem} {Q : Value → List (Nat × Row) → Prop} (h : C P f us F Q) (e : vs = us) : C P f vs F Q := e ▸ h
theorem arg2 {f : Value → Value} {a b a' b' : Value} (h1 : f a = a') (h2 : f b = b') : [a, b].map f = [a', b'] := by rw [List.map_cons, List.map_cons, List.map_nil, h1, h2]
theorem nt1_i (t : Nat) (k : IntKind) (x : Int) : nt1 t (.int k x) = true := rfl
theorem nt1_b (t : Nat) (x : Bool) : nt1 t (.bool x) = true := rfl
theorem tg1_i (t : List Nat) (k : IntKind) (x : Int) : tg1 t (.int k x) = true := rfl
theorem tg1_b (t : List Nat) (x : Bool) : tg1 t (.bool x) = true := rfl
theorem nt1_p (t b o : Nat) : nt1 t (.pointer (some ⟨b, o, some 0⟩)) = (b != t) := rfl
theorem RItems.slV {F : Mem} {v : Value} {l : List Item} (h : RItems F v l) : SlV v := by
  rcases h.forms with ⟨b, off, c, h1⟩ | ⟨h, _⟩
  · exact .inl ⟨b, off, _, c, h1⟩
  · exact .inr ⟨_, _, h⟩
theorem law3_C (F : Mem) (v : Value) (l : List Item) (x : Par) (hv : RItems F v l) (hgl : ∀ x ∈ l, x.glyphs.length * 8 ≤ 140737488355328) : C0 Try.prog 3 [v, x.v] F (.bool true) := by
  have hBr : ∀ G w, RItems G w l → C Try.prog 13 [w, x.v] G (fun u Y => ∃ w, u = .tuple #[.agg #[w, .int .i64 (breakD l x).1.2.1, .bool (breakD l x).1.2.2], .int .i64 (breakD l x).2] ∧ SlV w ∧ ∀ G, Rd G Y → RInts G w (breakD l x).1.1) := fun G w h => Break_C G w l x h
  have hBk : ∀ G w, RItems G w l → C Try.prog 14 [w, x.v] G (fun u Y => ∃ w, u = .tuple #[.agg #[w, .int .i64 (breakD l x).1.2.1, .bool (breakD l x).1.2.2], .int .i64 (breakD l x).2] ∧ SlV w ∧ ∀ G, Rd G Y → RInts G w (breakD l x).1.1) := fun G w h => R24Break_C G w l x h
  have hB : ∀ G w, RItems G w l → C Try.prog 15 [w, x.v] G (fun u Y => ∃ w, u = .tuple #[w, .int .i64 (bestD l x).2.1, .bool (bestD l x).2.2] ∧ SlV w ∧ ∀ G, Rd G Y → RInts G w (bestD l x).1) := fun G w h => Best_C G w l x h
  have hB2 : ∀ G w, RItems G w l → C Try.prog 16 [w, x.v] G (fun u Y => ∃ w, u = .tuple #[w, .int .i64 (bestD l x).2.1, .bool (bestD l x).2.2] ∧ SlV w ∧ ∀ G, Rd G Y → RInts G w (bestD l x).1) := fun G w h => R24Best_C G w l x h
  have hFi : ∀ G w, RItems G w l → C Try.prog 18 [w, x.v] G (fun u Y => ∀ G, Rd G Y → RInts G u (firstD l x)) := fun G w h => First_C G w l x h
  have hFr : ∀ G w, RItems G w l → C Try.prog 19 [w, x.v] G (fun u Y => ∀ G, Rd G Y → RInts G u (firstD l x)) := fun G w h => R24First_C G w l x h
  generalize breakD l x = bk at *
  generalize bestD l x = bd at *
  generalize firstD l x = fd at *
  obtain ⟨xw, tol, line, twice, odd⟩ := x
  obtain ⟨⟨pth, cst, fts⟩, err⟩ := bk
  obtain ⟨best, sum, ok⟩ := bd
  dsimp only [Par.v] at *
  obtain ⟨va, vn, vc, hva, rfl⟩ := hv.slV.op
  refine C.go hT Try.func3 Try.ntmps3 ?_
  refine sq ?_
  refine rg ?_
  refine bx (hL := by simp [ntL, ntV, nt2, argL, nt1_i, nt1_b, hva.nt]) ?_
  refine st (h := O) ?_
  refine nl ?_
  iterate 2 (refine sq ?_)
  refine rg ?_
  refine st (h := O) ?_
  refine cl (h := by exact fun ι hV hl => (large_C _ _ l (hv.le hl)).ofR (congrArg (fun z => [z]) (hva.rV ι _ _))) ?_
  refine nl ?_
  refine cB (fun c0 => ?_) (fun c0 => ?_)
  · refine sq ?_
    refine rg ?_
    refine cl (h := by exact fun ι hV hl => wakes_C _) ?_
    refine st (h := O) ?_
    refine nl ?_
    exact rt ⟨rfl, rfl⟩
  · have hl3 : l.length ≤ 3000 := by simp at c0; omega
    refine sk ?_
    refine sq ?_
    refine rg ?_
    refine st (h := O) ?_
    refine clC (h := by exact fun ι hV hl => (Copy_C _ _ l (hv.le hl) hl3 hgl).ofR (congrArg (fun z => [z]) (hva.rV ι _ _))) ?_
    intro p Y1 hQ1 hpv1 hpp1 hN1
    obtain ⟨hp, hI1⟩ := hQ1
    have hI1' := hI1 _ hN1.rows
    obtain ⟨pa, pn, pc, hpa, rfl⟩ := hp.op
    refine st (h := O) ?_
    refine nl ?_
    refine sq ?_
    refine J.weak (L0 := [(0, _), (3, _), (5, _)]) (K0 := [(3, _)]) (by exact ⟨rfl, rfl, rfl, trivial⟩) (by exact ⟨rfl, rfl, trivial⟩) ?_
    refine rg ?_
    refine st (h := O) ?_
    refine st (h := sdLN) ?_
    refine clC (h := by exact fun ι hV hl => (hBr _ _ (hI1'.le hl)).ofR (arg2 (hpa.rV ι _ _) rfl)) ?_
    intro u2 Y2 hQ2 hpv2 hpp2 hN2
    obtain ⟨w2, rfl, hw2, hG2⟩ := hQ2
    have hG2' := hG2 _ hN2.rows
    obtain ⟨wa2, wn2, wc2, hwa2, rfl⟩ := hw2.op
    iterate 3 (refine st (h := O) ?_)
    refine al (hL := by simp [ntL, ntV, nt2, cellsL, nt1_i, nt1_b, nt1_p, hva.nt, hpa.nt, hwa2.nt]) ?_
    refine so ?_
    refine st (h := O) ?_
    refine nl ?_
    refine sq ?_
    refine J.weak (L0 := [(0, _), (3, _), (5, _), (6, _), (7, _)]) (K0 := [(6, _), (3, _)]) (by exact ⟨rfl, rfl, rfl, rfl, rfl, trivial⟩) (by exact ⟨rfl, rfl, rfl, rfl, trivial⟩) ?_
    refine rg ?_
    refine st (h := O) ?_
    refine st (h := sdLN) ?_
    refine clC (h := by exact fun ι hV hl => (hBk _ _ (((hv.le hN1.le).le hN2.le).le hl)).ofR (arg2 (hva.rV ι _ _) rfl)) ?_
    intro u3 Y3 hQ3 hpv3 hpp3 hN3
    obtain ⟨w3, rfl, hw3, hG3⟩ := hQ3
    have hG3' := hG3 _ hN3.rows
    obtain ⟨wa3, wn3, wc3, hwa3, rfl⟩ := hw3.op
    iterate 3 (refine st (h := O) ?_)
    refine al (hL := by simp [ntL, ntV, nt2, cellsL, nt1_i, nt1_b, nt1_p, hva.nt, hpa.nt, hwa2.nt, hwa3.nt]) (hK := by simp [ntK, cellsL, putL, nt1_i, nt1_b, hwa2.nt, hwa3.nt, setK]) ?_
    refine so ?_
    refine st (h := O) ?_
    refine nl ?_
    refine sq ?_
    refine J.weak (L0 := [(0, _), (3, _), (5, _), (6, _), (7, _), (8, _), (9, _)]) (K0 := [(8, _), (6, _), (3, _)]) (by exact ⟨rfl, rfl, rfl, rfl, rfl, rfl, rfl, trivial⟩) (by exact ⟨rfl, rfl, rfl, rfl, rfl, rfl, trivial⟩) ?_
    refine rg ?_
    refine st (h := O) ?_
    refine st (h := sdLN) ?_
    refine clC (h := by exact fun ι hV hl => (hB _ _ (((hI1'.le hN2.le).le hN3.le).le hl)).ofR (arg2 (hpa.rV ι _ _) rfl)) ?_
    intro u4 Y4 hQ4 hpv4 hpp4 hN4
    obtain ⟨w4, rfl, hw4, hG4⟩ := hQ4
    have hG4' := hG4 _ hN4.rows
    obtain ⟨wa4, wn4, wc4, hwa4, rfl⟩ := hw4.op
    iterate 7 (refine st (h := O) ?_)
    refine nl ?_
    refine sq ?_
    refine J.weak (L0 := [(0, _), (3, _), (5, _), (6, _), (7, _), (8, _), (9, _), (10, _), (11, _), (12, _)]) (K0 := [(8, _), (6, _), (3, _)]) (by exact ⟨rfl, rfl, rfl, rfl, rfl, rfl, rfl, rfl, rfl, rfl, trivial⟩) (by exact ⟨rfl, rfl, rfl, rfl, rfl, rfl, trivial⟩) ?_
    refine rg ?_
    refine st (h := O) ?_
    refine st (h := sdLN) ?_
    refine clC (h := by exact fun ι hV hl => (hB2 _ _ (((((hv.le hN1.le).le hN2.le).le hN3.le).le hN4.le).le hl)).ofR (arg2 (hva.rV ι _ _) rfl)) ?_
    intro u5 Y5 hQ5 hpv5 hpp5 hN5
    obtain ⟨w5, rfl, hw5, hG5⟩ := hQ5
    have hG5' := hG5 _ hN5.rows
    obtain ⟨wa5, wn5, wc5, hwa5, rfl⟩ := hw5.op
    iterate 7 (refine st (h := O) ?_)
    refine nl ?_
    refine sq ?_
    refine J.weak (L0 := [(0, _), (3, _), (5, _), (6, _), (7, _), (8, _), (9, _), (10, _), (11, _), (12, _), (13, _), (14, _), (15, _)]) (K0 := [(8, _), (6, _), (3, _)]) (by exact ⟨rfl, rfl, rfl, rfl, rfl, rfl, rfl, rfl, rfl, rfl, rfl, rfl, rfl, trivial⟩) (by exact ⟨rfl, rfl, rfl, rfl, rfl, rfl, trivial⟩) ?_
    refine dr (tgk := by simp [tgK, cellsL, putL, tg1_i, tg1_b, hwa2.tg, hwa3.tg]) 57 [8, 6, 3] [0, 1, 2, 3, 1004, 5, 6, 7, 8, 9, 10, 11, 12, 13, 14, 15, 16, 17, 18, 19, 20, 21, 22, 23, 24, 25, 26, 1027, 28, 29, 30, 31, 32, 33, 34, 35, 36, 37, 38, 39, 40, 41, 43, 44, 1042, 1045, 1046, 47, 48, 49, 50, 1051, 52, 53, 1054, 55, 56] ?_
    refine dt (hv := by exact sdFA) ?_
    refine dt (hv := by exact sdL) ?_
    refine dt (hv := by exact sdFA) ?_
    refine dt (hv := by exact sdL) ?_
    refine dcl (hkp := by first | exact Kept.all | exact Kept.k0 | exact Kept.kY | exact Kept.kYY | exact Kept.kY3) (h := by exact fun ι hV hl => (Same_C _ _ _ pth pth ((((hG2'.le hN3.le).le hN4.le).le hN5.le).le hl) (((hG3'.le hN4.le).le hN5.le).le hl)).ofR (arg2 (hwa2.rV ι _ _) (hwa3.rV ι _ _))) ?_
    refine dt (hv := by exact O) ?_
    refine dgB (fun g52 => ?_) (fun g52 => ?_)
    · refine dg (hv := by exact sdFA) ?_
      refine dg (hv := by exact sdL) ?_
      refine dg (hv := by exact sdFA) ?_
      refine dg (hv := by exact sdL) ?_
      refine dg (hv := by exact O) ?_
      iterate 2 (refine dt (hv := by exact O) ?_)
      refine dgD (fun g59 => ?_) (fun g59 => ?_)
      · refine dg (hv := by exact sdFA) ?_
        refine dg (hv := by exact sdL) ?_
        refine dg (hv := by exact sdFA) ?_
        refine dg (hv := by exact sdL) ?_
        refine dg (hv := by exact sbEq) ?_
        iterate 2 (refine dt (hv := by exact O) ?_)
        refine dgB (fun g66 => ?_) (fun g66 => ?_)
        · refine dg (hv := by exact O) ?_
          iterate 2 (refine dg (hv := by exact O) ?_)
          iterate 2 (refine dt (hv := by exact O) ?_)
          refine dgD (fun g71 => ?_) (fun g71 => ?_)
          · refine dg (hv := by exact O) ?_
            refine dg (hv := by exact O) ?_
            refine dclg (hkp := by first | exact Kept.all | exact Kept.k0 | exact Kept.kY | exact Kept.kYY | exact Kept.kY3) (h := by exact fun ι hV hl => (Same_C _ _ _ best best ((hG4'.le hN5.le).le hl) (hG5'.le hl)).ofR (arg2 (hwa4.rV ι _ _) (hwa5.rV ι _ _))) ?_
            iterate 2 (refine dt (hv := by exact O) ?_)
            refine dgB (fun g76 => ?_) (fun g76 => ?_)
            · refine dg (hv := by exact O) ?_
              iterate 2 (refine dg (hv := by exact O) ?_)
              iterate 2 (refine dt (hv := by exact O) ?_)
              refine dgD (fun g81 => ?_) (fun g81 => ?_)
              · refine dg (hv := by exact O) ?_
                refine dg (hv := by exact O) ?_
                refine dg (hv := by exact sbEq) ?_
                iterate 2 (refine dt (hv := by exact O) ?_)
                refine dgB (fun g86 => ?_) (fun g86 => ?_)
                · refine dg (hv := by exact O) ?_
                  refine dg (hv := by exact sdLN) ?_
                  refine dg (hv := by exact O) ?_
                  refine dg (hv := by exact sdLN) ?_
                  refine dclgC (hkp := by first | exact Kept.all | exact Kept.k0 | exact Kept.kY | exact Kept.kYY | exact Kept.kY3) (h := by exact fun ι hV hl => (hFi _ _ (((((hI1'.le hN2.le).le hN3.le).le hN4.le).le hN5.le).le hl)).ofR (arg2 (hpa.rV ι _ _) rfl)) ?_
                  intro u6 Y6 hQ6 hpv6 hpp6 hN6
                  have hG6' := hQ6 _ hN6.rows
                  obtain ⟨wa6, wn6, wc6, hwa6, rfl⟩ := hG6'.sl.op
                  refine dclgC (hkp := by first | exact Kept.all | exact Kept.k0 | exact Kept.kY | exact Kept.kYY | exact Kept.kY3) (h := by exact fun ι hV hl => (hFr _ _ ((((((hv.le hN1.le).le hN2.le).le hN3.le).le hN4.le).le hN5.le).le hN6.le |>.le hl)).ofR (arg2 (hva.rV ι _ _) rfl)) ?_
                  intro u7 Y7 hQ7 hpv7 hpp7 hN7
                  have hG7' := hQ7 _ hN7.rows
                  obtain ⟨wa7, wn7, wc7, hwa7, rfl⟩ := hG7'.sl.op
                  refine dclg (hkp := by first | exact Kept.all | exact Kept.k0 | exact Kept.kY | exact Kept.kYY | exact Kept.kY3) (h := by exact fun ι hV hl => (Same_C _ _ _ fd fd ((hG6'.le hN7.le).le hl) (hG7'.le hl)).ofR (arg2 (hwa6.rV ι _ _) (hwa7.rV ι _ _))) ?_
                  iterate 2 (refine dt (hv := by exact O) ?_)
                  refine dgB (fun g95 => ?_) (fun g95 => ?_)
                  · refine dg (hv := by exact O) ?_
                    refine dg (hv := by exact O) ?_
                    refine dclg (hkp := by first | exact Kept.all | exact Kept.k0 | exact Kept.kY | exact Kept.kYY | exact Kept.kY3) (h := by exact fun ι hV hl => (SameItems_C _ _ _ l l (((((((hI1'.le hN2.le).le hN3.le).le hN4.le).le hN5.le).le hN6.le).le hN7.le).le hl) ((((((((hv.le hN1.le).le hN2.le).le hN3.le).le hN4.le).le hN5.le).le hN6.le).le hN7.le).le hl)).ofR (arg2 (hpa.rV ι _ _) (hva.rV ι _ _))) ?_
                    iterate 2 (refine dt (hv := by exact O) ?_)
                    refine dgB (fun g100 => ?_) (fun g100 => ?_)
                    · refine dclg (hkp := by first | exact Kept.all | exact Kept.k0 | exact Kept.kY | exact Kept.kYY | exact Kept.kY3) (h := by exact fun ι hV hl => wakes_C _) ?_
                      iterate 2 (refine dt (hv := by exact O) ?_)
                      refine dn ?_
                      rw [add_add, add_add, add_add, add_add, add_add, add_add]
                      refine J.dropF ?_
                      exact rt ⟨rfl, rfl⟩
                    · simp at g100
                  · simp at g95
                · simp at g86
              · exact absurd rfl g81
            · simp at g76
          · exact absurd rfl g71
        · simp at g66
      · exact absurd rfl g59
    · simp at g52

end Go.Proofs.Ytbeblgjibfoanaa.Am
namespace Go.Proofs.Ytbeblgjibfoanaa.breaksBest
open Go.ChangeShapes Go.WideShapes Go.ChangeAt Go.RowKit
open Go.ChangeMaps (open_string shut_string)
set_option linter.unusedVariables false
theorem own : ownKnob Try.prog.godebug = none := by kernel_rfl
theorem laidOut : laidOutB Try.prog = true := by kernel_rfl
set_option maxRecDepth 100000 in
theorem lifted (os : Os) (started : os.Started) (H : Type) (enc : TypeId × Value → H) :
    ReturnsInHanded {} Try.checked os 3 .any (Rows.breaksBestSpec.pre6 enc Try.prog Try.f3 Rows.breaksBestRow.domain false) (Rows.breaksBestSpec.post enc Try.prog Try.f3 false true false false) := by
  refine returnsInHanded_of_change_sized (C := Try.checked) own started (by kernel_rfl) Try.func3
    (ChangeSpec.witness6 (enc := enc) (C := Try.checked) false ⟨#[], #[.slice none 0 0, .agg #[.int .i64 0, .int .i64 0, .int .i64 0, .int .i64 0, .int .i64 0]], []⟩ 8 (by kernel_rfl) (by kernel_rfl) (by kernel_rfl) (by kernel_rfl)) ?_
  intro W base args ds gs before hval0 hW hcnd hsz0 _
  have hsz : (DataW.weightsEach Try.prog (Try.f3.params.toList ++ Rows.breaksBestSpec.plain.varTypes Try.prog) (ds ++ gs)).all (· ≤ reachBytes) = true := hsz0
  have hval : ∀ (j : Nat) t v, Try.f3.params[j]? = some t → args[j]? = some v → Value.okWide Try.prog W .any base t v := hval0
  have hW' := hW
  obtain ⟨p, q, hA0, hV, rfl, hfz, hnd⟩ := hW
  have hA : DataW.TrodAll enc Try.prog W 0 (fun _ => true) true Try.f3.params.toList args.toList ds p := hA0
  rw [Try.params3] at hA hval hsz
  obtain ⟨v0, vs0, d0, ds0, p0, q0, hargs, rfl, rfl, h0, r0⟩ := trodAll_cons hA
  obtain ⟨v1, vs1, d1, ds1, p1, q1, rfl, rfl, rfl, h1, r1⟩ := trodAll_cons r0
  obtain ⟨rfl, rfl, rfl⟩ := trodAll_nil r1
  obtain rfl : args = #[v0, v1] := by cases args; simp_all
  obtain ⟨rfl, rfl⟩ := trodVars_none hV
  have k0 := h0
  have lt0 : ∀ x ∈ p0, x.block < W.heap.size := by obtain ⟨m, hm⟩ := k0; exact DataW.trod_lt m _ _ _ hm
  have sp0 := Am.okWide_spot Try.underlying22 (hval 0 22 v0 rfl rfl)
  obtain ⟨a0, n0, m0, rfl⟩ := okWide_slice Try.underlying22 (hval 0 22 v0 rfl rfl)
  obtain ⟨x0, f0, t0, g0, b0, c0⟩ := Am.openedS (enc := enc) (W := W) 104 Try.underlying22 (by kernel_rfl) (by kernel_rfl) (by decide) Am.opItem rfl sp0 h0 (Am.weigh hsz (j := 0) (t := 22) rfl rfl)
  have k1 := h1
  have lt1 : ∀ x ∈ p1, x.block < W.heap.size := by obtain ⟨m, hm⟩ := k1; exact DataW.trod_lt m _ _ _ hm
  obtain ⟨cs1, rfl, hcs1⟩ := okWide_struct Try.underlying24 (hval 1 24 v1 rfl rfl)
  obtain ⟨x1, f1, g1⟩ := Am.opened (enc := enc) (W := W) Am.opPar h1 (Am.weigh hsz (j := 1) (t := 24) rfl rfl)
  have t1 : Am.eV (.agg cs1) = .agg ⟨cs1.toList.map Am.e1⟩ := rfl
  have hrun := Am.C0.run_e (P := Try.prog) (f := 3) (args := [.slice a0 n0 m0, .agg cs1]) (W := W) (r := .bool true) (by
    simp only [List.map_cons, List.map_nil, t0, t1]
    exact (by rw [show Value.agg ⟨cs1.toList.map Am.e1⟩ = Am.Par.v x1 from f1]; exact Am.law3_C ⟨W, []⟩ _ x0 x1 (Am.RItems.ofS f0) g0)) (by intro v hv vs e; subst e; simp at hv) rfl
  clear hval0 hsz0 hsz hA0
  refine Calls.mono hrun fun e W' ⟨he, bel⟩ => ?_
  subst he
  exact ⟨_, rfl, _, _, _, [], _, [], hW', trodAll_mk1 (shut_bool Try.underlying4 _), (trodAll_cons_mk (Below.trod laidOut (by kernel_rfl) (of_decide_eq_true (by kernel_rfl)) k0 bel lt0) (trodAll_cons_mk (Below.trod laidOut (by kernel_rfl) (of_decide_eq_true (by kernel_rfl)) k1 bel lt1) trodAll_mk0)), rfl, bel.frame _, fun h => by cases h⟩
theorem over : Rows.breaksBestRow.holds Try.pinned (OpenSpec.ofChange Rows.breaksBestSpec) :=
  OpenClaim.holds_of_wide 3 Try.f3 rfl rfl rfl rfl rfl rfl rfl ⟨rfl, rfl, rfl, rfl, rfl⟩ rfl rfl rfl rfl rfl (by kernel_rfl) Try.func3 (by kernel_rfl)
    (of_decide_eq_true (by kernel_rfl)) (by unfold Func.isWrapper; first | (rw [if_pos (by decide +kernel)]; kernel_rfl) | (rw [if_neg (by decide +kernel)]; exact ⟨rfl, rfl⟩))
    (fun os started H enc _ => lifted os started H enc)
theorem proved : Rows.BreaksBestSaid := over
#print axioms proved
end Go.Proofs.Ytbeblgjibfoanaa.breaksBest
namespace Go.Proofs.Ytbeblgjibfoanaa
/-- The row, under a short name, for the claim. -/
theorem breaksBest_holds : Rows.BreaksBestSaid := breaksBest.proved
end Go.Proofs.Ytbeblgjibfoanaa
