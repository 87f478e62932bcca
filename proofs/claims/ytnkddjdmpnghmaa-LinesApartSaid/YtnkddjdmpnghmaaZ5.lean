/- Rules for walking Go functions, and contracts proved by them (T11, U12, V8, V13, T13, T14, T14c, T15, T16, T17, O1, O3, N11, T18, P1, N17, T19, P2). -/
import Derived.Test.YtnkddjdmpnghmaaZ4
import Derived.Below
import Derived.Laws.OwnMore
import Derived.KernelRfl
import Derived.Laws.Bits
import Derived.Laws.Strings
import Derived.Laws.Entries
import Derived.IntWalk
import Derived.Laws.Cells
import Derived.Laws.Append
import Derived.Laws.BytesString
import Derived.Laws.BytesArg
import Derived.Tactics
import Derived.Orders
import Derived.OrdersHeld
import Derived.Test.YtnkddjdmpnghmaaChecked
import Derived.Scope
import Derived.Laws.BitsLemmas
import Derived.Laws.Small
import Derived.Laws.Concat
import Derived.ChangeKeysEq
import Derived.ChangeArms
import Derived.DataReads
import Derived.WideShapes
import Derived.SizedLaws
import Derived.OpenShut
namespace Go.Proofs.Ytnkddjdmpnghmaa.Am
set_option linter.unusedSimpArgs false
set_option linter.unusedVariables false
set_option maxRecDepth 100000
set_option maxHeartbeats 4000000
open Go Go.RowKit
theorem one_Cb (F : Mem) (v : Value) (l : List Item) (a b width ag : Int) (hv : RItems F v l) (hg : goodL l = true) (ha : -1 ≤ a) (hb0 : 0 ≤ b) (hb : b < l.length) (hln : lineB l a b = true) (hw : 1 ≤ width ∧ width ≤ 1073741824) (hgl : ∀ x ∈ l, x.glyphs.length * 8 ≤ 140737488355328) : C Try.prog 33 [v, .int .i64 a, .int .i64 b, .int .i64 width, .int .i64 ag] F (fun u Y => ∃ pv, u = .agg ⟨(oneD l (a + 1).toNat b.toNat width ag).cells pv⟩ ∧ plain1 pv = true ∧ ∀ G, Rd G Y → RL 7 TPc G pv (oneD l (a + 1).toNat b.toNat width ag).pieces) := by
  have eb : ((b.toNat : Nat) : Int) = b := by omega
  have := one_C F v l a (a + 1).toNat b.toNat width ag hv hg (by omega) (by omega) (by rw [eb]; exact hln) hw hgl
  rwa [eb] at this
theorem rSet_C (F : Mem) (v : Value) (ab : Option Addr) (ac : Nat) (l : List Item) (ats : List Int) (width ag : Int) (hv : RItems F v l) (hax : RIx F ab ats) (hgl : ∀ x ∈ l, x.glyphs.length * 8 ≤ 140737488355328) (hal : ats.length ≤ 100000) : C Try.prog 13 [v, .slice ab ats.length ac, .int .i64 width, .int .i64 ag] F (RedSet (setD l ats width ag)) := by
  obtain ⟨vb, vc, hvb, rfl⟩ := hv.opl
  have h220 : goodL l = false → setD l ats width ag = ([], 220) := fun h => if_pos h
  have hno : goodL l = true → ¬ ((mayB width ag = true ∧ 0 < ats.length ∧ ints ats (ats.length - 1) = (l.length : Int) - 1) ∧ ∀ j, j < ats.length → lineB l (prevA ats j) (ints ats j) = true) → setD l ats width ag = ([], 1) := fun h h2 => by
    unfold setD
    rw [if_neg (by rw [h]; decide), if_neg h2]
  have hE : RedSet ([], 1) (.tuple #[.slice none 0 0, .int .i64 1]) [] := ⟨_, rfl, rfl, fun G hG => RL.nil _⟩
  refine C.go hT Try.func13 Try.ntmps13 ?_
  refine sq ?_
  refine rg ?_
  iterate 2 (refine st (h := O) ?_)
  refine nl ?_
  iterate 2 (refine sq ?_)
  refine rg ?_
  refine st (h := O) ?_
  refine cl (h := by exact fun ι hV hl => (RGood_C _ _ l (hv.le hl)).ofR (arg1 (hvb.rV ι _ _))) ?_
  refine st (h := O) ?_
  refine nl ?_
  refine cB (fun c0 => ?_) (fun c0 => ?_)
  ·refine sq ?_
   refine rg ?_
   iterate 2 (refine st (h := O) ?_)
   refine nl ?_
   rw [h220 (by simpa using c0)]
   exact rt ⟨_, rfl, rfl, fun G hG => RL.nil _⟩
  ·have hg : goodL l = true := by simpa using c0
   have hlen := good_len hg
   obtain ⟨yb, yo, rfl⟩ : ∃ b o, vb = some ⟨b, o, none⟩ := by
     rcases hv with ⟨b, o, c, e, _⟩ | ⟨_, rfl⟩
     · simp only [Value.slice.injEq] at e
       exact ⟨b, o, e.1⟩
     · exact absurd hg (by decide)
   refine sk ?_
   iterate 2 (refine sq ?_)
   refine rg ?_
   iterate 2 (refine st (h := O) ?_)
   refine cl (h := by exact fun ι hV hl => rmay_C _ _ _) ?_
   iterate 2 (refine st (h := O) ?_)
   refine gB (fun g21 => ?_) (fun g21 => ?_)
   ·refine sp ?_
    iterate 2 (refine sp ?_)
    iterate 2 (refine st (h := O) ?_)
    iterate 10 (refine sp ?_)
    refine st (h := O) ?_
    refine nl ?_
    refine cT ?_
    refine sq ?_
    refine rg ?_
    iterate 2 (refine st (h := O) ?_)
    refine nl ?_
    rw [hno hg (fun h => by simp [h.1.1] at g21)]
    exact rt hE
   ·refine sg (h := O) ?_
    iterate 2 (refine sg (h := O) ?_)
    iterate 2 (refine st (h := O) ?_)
    refine gD (fun g26 => ?_) (fun g26 => ?_)
    ·refine sp ?_
     iterate 9 (refine sp ?_)
     refine st (h := O) ?_
     refine nl ?_
     refine cT ?_
     refine sq ?_
     refine rg ?_
     iterate 2 (refine st (h := O) ?_)
     refine nl ?_
     rw [hno hg (fun h => by have := h.1.2.1; omega)]
     exact rt hE
    ·have hm : mayB width ag = true := by simpa using g21
     obtain ⟨xb, xo, rfl, har⟩ := hax.rd (by omega)
     have har' : ∀ i, i < ats.length → look F ⟨xb, xo + i, none⟩ = some (.int .i64 (ints ats i)) := fun i hi => har i _ (ints_get hi)
     have q1 : look F ⟨xb, xo + ((ats.length : Int) - 1).toNat * 1, none⟩ = some (.int .i64 (ints ats (ats.length - 1))) := by
       rw [← har' (ats.length - 1) (by omega)]
       congr 2
       omega
     iterate 3 (refine sg (h := O) ?_)
     refine sg (h := sdS) ?_
     refine sg (h := (sdX (z := 1))) ?_
     refine sg (h := (by first | exact sdLG | exact sdW)) ?_
     iterate 2 (refine sg (h := O) ?_)
     refine sg (h := sdS) ?_
     refine sg (h := O) ?_
     refine st (h := O) ?_
     refine nl ?_
     refine cN (fun c1 => ?_) (fun c1 => ?_)
     ·refine sq ?_
      refine rg ?_
      iterate 2 (refine st (h := O) ?_)
      refine nl ?_
      rw [hno hg (fun h => by have := h.1.2.2; omega)]
      exact rt hE
     ·have hm2 := hm
      simp only [mayB, decide_eq_true_eq] at hm2
      refine sk ?_
      refine sq ?_
      refine rg ?_
      refine st (h := O) ?_
      refine nl ?_
      iterate 2 (refine sq ?_)
      refine rg ?_
      refine st (h := O) ?_
      refine nl ?_
      refine bl ?_
      refine J.loop1 (α := Nat) (fun i => i ≤ ats.length ∧ ∀ j, j < i → lineB l (prevA ats j) (ints ats j) = true) (fun i => [(10, .int .i64 (prevA ats i)), (11, .int .i64 i)]) [(0, _), (1, _), (2, _), (3, _)] (fun i => []) [] (fun i => ats.length - i) (0) (by exact ⟨rfl, rfl, trivial⟩) (by exact ⟨rfl, rfl, rfl, rfl, trivial⟩) (by exact trivial) ?_ ?_
      · exact ⟨Nat.zero_le _, fun j hj => absurd hj (Nat.not_lt_zero _)⟩
      ·intro i L1 K1 e1 e2 hI
       dsimp only [apV, apR, List.cons_append, List.nil_append] at e1 e2
       subst e1 e2
       obtain ⟨hi, hch⟩ := hI
       iterate 2 (refine sq ?_)
       refine rg ?_
       iterate 4 (refine st (h := O) ?_)
       refine nl ?_
       refine cD (fun c2 => ?_) (fun c2 => ?_)
       ·have hil : i < ats.length := by omega
        have q2 : look F ⟨xb, xo + (i : Int).toNat * 1, none⟩ = some (.int .i64 (ints ats i)) := by
          rw [Int.toNat_natCast, Nat.mul_one]
          exact har' i hil
        refine sk ?_
        refine sq ?_
        refine bl ?_
        iterate 2 (refine sq ?_)
        refine rg ?_
        iterate 4 (refine st (h := O) ?_)
        refine st (h := (sdX (z := 1))) ?_
        refine st (h := (by first | exact sdLG | exact sdW)) ?_
        refine cl (h := by exact fun ι hV hl => (rline_C _ _ l _ _ (hv.le hl)).ofR (argC (hvb.rV ι _ _) rfl)) ?_
        refine st (h := O) ?_
        refine nl ?_
        refine cB (fun c3 => ?_) (fun c3 => ?_)
        ·refine sq ?_
         refine rg ?_
         iterate 2 (refine st (h := O) ?_)
         refine nl ?_
         rw [hno hg (fun h => by simp [h.2 i hil] at c3)]
         exact rt hE
        ·refine sk ?_
         refine rg ?_
         iterate 2 (refine st (h := O) ?_)
         refine st (h := (sdX (z := 1))) ?_
         refine st (h := (by first | exact sdLG | exact sdW)) ?_
         refine st (h := O) ?_
         refine nl ?_
         refine bk ?_
         refine rg ?_
         refine st (h := O) ?_
         refine st (h := sdA) ?_
         refine st (h := O) ?_
         refine nl ?_
         refine bk1 (i + 1) (by exact ⟨rfl, rfl, trivial⟩) (by exact ⟨rfl, rfl, rfl, rfl, trivial⟩) (by exact trivial) ?_ ?_
         · omega
         · refine ⟨by omega, fun j hj => ?_⟩
           rcases Nat.lt_or_ge j i with h | h
           · exact hch j h
           · obtain rfl : j = i := by omega
             simpa using c3
       ·obtain rfl : i = ats.length := by omega
        have hS : setD l ats width ag = (linesN l ats width ag ats.length, 0) := by
          unfold setD
          rw [if_neg (by rw [hg]; decide), if_pos ⟨⟨hm, by omega, by omega⟩, hch⟩]
        refine ex ?_
        refine sq ?_
        refine rg ?_
        refine st (h := O) ?_
        refine nl ?_
        refine sq ?_
        refine rg ?_
        refine st (h := O) ?_
        refine nl ?_
        iterate 2 (refine sq ?_)
        refine rg ?_
        refine st (h := O) ?_
        refine nl ?_
        refine bl ?_
        refine J.gloop4 (α := Option Nat) (β := Nat) (γ := Nat) (δ := List Value) (fun Y o m i cs => i ≤ ats.length ∧ m = i ∧ apB o m ∧ LR 3 TLn Y (linesN l ats width ag i) cs) (fun o m i cs => [(10, .int .i64 (prevA ats i)), (12, apV 73 o m), (13, .int .i64 i)]) [(0, _), (1, _), (2, _), (3, _)] (fun o m i cs => apR 73 47 3 true o cs ++ []) [] (fun o m i cs => ats.length - i) (none) (0) (0) ([]) (by exact ⟨rfl, rfl, rfl, trivial⟩) (by exact ⟨rfl, rfl, rfl, rfl, trivial⟩) (by exact (by repeat' first | exact trivial | refine And.intro rfl ?_)) ?_ ?_
        · exact ⟨Nat.zero_le _, rfl, rfl, LR.nil _⟩
        ·intro Y o m i cs L1 K1 e1 e2 hI hY hN
         rcases o with _ | cap_o
         all_goals
          dsimp only [apV, apR, List.cons_append, List.nil_append] at e1 e2
          subst e1 e2
          obtain ⟨hi, hmi, hap, hLR⟩ := hI
          simp only [apB] at hap
          try (obtain rfl : m = 0 := hap)
          have hLl := hLR.len
          have hnl : (linesN l ats width ag i).length = i := by simp [linesN]
          rw [hnl] at hLl
          try (have hz : cs.length = 0 := by omega
               have hz2 := List.eq_nil_of_length_eq_zero hz
               subst hz2)
          iterate 2 (refine sq ?_)
          refine rg ?_
          iterate 4 (refine st (h := O) ?_)
          refine nl ?_
          refine cD (fun c4 => ?_) (fun c4 => ?_)
          ·have hil : i < ats.length := by omega
           have q3 : look (F.add Y) ⟨xb, xo + (i : Int).toNat * 1, none⟩ = some (.int .i64 (ints ats i)) := by
             rw [Int.toNat_natCast, Nat.mul_one]
             exact hN.le _ _ (har' i hil)
           have hln := hch i hil
           have hlt := lineB_facts hln
           refine sk ?_
           refine sq ?_
           refine bl ?_
           refine sq ?_
           refine rg ?_
           iterate 5 (refine st (h := O) ?_)
           refine st (h := (sdX (z := 1))) ?_
           refine st (h := (by first | exact sdLG | exact sdW)) ?_
           iterate 2 (refine st (h := O) ?_)
           refine clC (h := by exact fun ι hV hl => (one_Cb _ _ l (prevA ats i) (ints ats i) width ag ((hv.le hN.le).le hl) hg (by omega) (by omega) (by omega) hln ⟨hm2.1, hm2.2.1⟩ hgl)) ?_
           intro u2 Y2 hQ2 hv2 hp2 hN2
           obtain ⟨pv, rfl, hpv, hR2⟩ := hQ2
           have q3 := hN2.le _ _ q3
           have h2 := hR2 _ hN2.rows
           rcases h2 with ⟨qb, qo, qc, rfl, _⟩ | ⟨rfl, _⟩
           ·
            refine sl ?_
            first | refine apN (news := [_, _, _]) 73 true [(0, _), (1, _), (2, _), (3, _), (13, _)] [] ?_ | refine apO (news := [_, _, _]) 1073 73 [(0, _), (1, _), (2, _), (3, _), (13, _)] [] ?_
            intro cap73 hc73 hd73
            refine st (h := O) ?_
            refine nl ?_
            refine rg ?_
            iterate 2 (refine st (h := O) ?_)
            refine st (h := (sdX (z := 1))) ?_
            refine st (h := (by first | exact sdLG | exact sdW)) ?_
            refine st (h := O) ?_
            refine nl ?_
            refine bk ?_
            refine rg ?_
            refine st (h := O) ?_
            refine st (h := sdA) ?_
            refine st (h := O) ?_
            refine nl ?_
            refine gbk4 (_) (some _) (_) (i + 1) (_) (by exact ⟨rfl, rfl, rfl, trivial⟩) (by exact ⟨rfl, rfl, rfl, rfl, trivial⟩) (by exact (by repeat' first | exact trivial | refine And.intro rfl ?_)) (by exact add_add _ _ _) ?_ ?_ ?_
            · exact PlainRows.app hY hp2
            · omega
            · refine ⟨by omega, by omega, ⟨by omega, by omega⟩, ?_⟩
              rw [linesN_succ]
              exact LR.snoc (Z := Y2) hLR rfl (fun v hv => by simp only [Ln.cells, List.mem_cons, List.not_mem_nil, or_false] at hv; rcases hv with rfl | rfl | rfl <;> rfl) fun G hG => ⟨_, rfl, hR2 G hG.app_left⟩
           ·
            refine sl ?_
            first | refine apN (news := [_, _, _]) 73 true [(0, _), (1, _), (2, _), (3, _), (13, _)] [] ?_ | refine apO (news := [_, _, _]) 1073 73 [(0, _), (1, _), (2, _), (3, _), (13, _)] [] ?_
            intro cap73 hc73 hd73
            refine st (h := O) ?_
            refine nl ?_
            refine rg ?_
            iterate 2 (refine st (h := O) ?_)
            refine st (h := (sdX (z := 1))) ?_
            refine st (h := (by first | exact sdLG | exact sdW)) ?_
            refine st (h := O) ?_
            refine nl ?_
            refine bk ?_
            refine rg ?_
            refine st (h := O) ?_
            refine st (h := sdA) ?_
            refine st (h := O) ?_
            refine nl ?_
            refine gbk4 (_) (some _) (_) (i + 1) (_) (by exact ⟨rfl, rfl, rfl, trivial⟩) (by exact ⟨rfl, rfl, rfl, rfl, trivial⟩) (by exact (by repeat' first | exact trivial | refine And.intro rfl ?_)) (by exact add_add _ _ _) ?_ ?_ ?_
            · exact PlainRows.app hY hp2
            · omega
            · refine ⟨by omega, by omega, ⟨by omega, by omega⟩, ?_⟩
              rw [linesN_succ]
              exact LR.snoc (Z := Y2) hLR rfl (fun v hv => by simp only [Ln.cells, List.mem_cons, List.not_mem_nil, or_false] at hv; rcases hv with rfl | rfl | rfl <;> rfl) fun G hG => ⟨_, rfl, hR2 G hG.app_left⟩
          ·obtain rfl : i = ats.length := by omega
           rw [hS]
           refine ex ?_
           refine sq ?_
           refine rg ?_
           iterate 3 (refine st (h := O) ?_)
           refine nl ?_
           first
             | (exfalso; omega)
             | exact rtY hY fun ι hV => ⟨.slice (some ⟨ι 73, 0, none⟩) m cap_o, rfl, rfl, fun G hG => hLR.readO (Z := []) rfl hG (by rw [hnl]; exact hmi) hap.1 hap.2⟩
end Go.Proofs.Ytnkddjdmpnghmaa.Am
namespace Go.Proofs.Ytnkddjdmpnghmaa.Am
set_option linter.unusedSimpArgs false
set_option linter.unusedVariables false
set_option maxRecDepth 100000
set_option maxHeartbeats 4000000
open Go Go.RowKit
end Go.Proofs.Ytnkddjdmpnghmaa.Am
namespace Go.Proofs.Ytnkddjdmpnghmaa.Am
set_option linter.unusedSimpArgs false
set_option linter.unusedVariables false
set_option maxRecDepth 100000
set_option maxHeartbeats 4000000
open Go Go.RowKit
theorem SlV.plain {w : Value} (h : SlV w) : plain1 w = true := by
  rcases h with ⟨b, o, n, c, rfl⟩ | ⟨n, c, rfl⟩ <;> rfl
/-- one of the call's own rows of numbers, as its callee sees it -/
theorem Val.ints {ι : Nat → Nat} {K : Own} {F : Mem} (h : Val ι K F) {t n c : Nat} {r : Row} {xs : List Int} (hr : K.lookup t = some r) (hcs : r.cs = ivs xs) (hn : n = xs.length) (hl : xs.length ≤ 9223372036854775807) : RInts (push ι K F) (.slice (some ⟨ι t, 0, none⟩) n c) xs := by
  subst hn
  refine .inl ⟨ι t, 0, c, rfl, hl, fun i x hx => ?_⟩
  rw [Nat.zero_add]
  have := h.look hr (o := i) (v := .int .i64 x) (by rw [hcs]; exact ivs_get hx)
  exact this
end Go.Proofs.Ytnkddjdmpnghmaa.Am
namespace Go.Proofs.Ytnkddjdmpnghmaa.Am
set_option linter.unusedSimpArgs false
set_option linter.unusedVariables false
set_option maxRecDepth 100000
set_option maxHeartbeats 4000000
open Go Go.RowKit
theorem SlG.r {g : Value} (h : SlG g) (ι : Nat → Nat) : r1 ι g = g := by
  rcases h with (⟨b, o, n, c, rfl⟩ | ⟨n, c, rfl⟩) | ⟨b, o, s, n, c, rfl⟩ <;> rfl
theorem RGl.forms {F : Mem} {g : Value} {xs : List Int} (h : RGl F g xs) : RInts F g xs ∨ (xs = [] ∧ ∃ b o s, g = .slice (some ⟨b, o, some (s + 1)⟩) 0 0) := by
  rcases h with h | ⟨b, o, s, h, h2⟩
  · exact .inl h
  · exact .inr ⟨h2, b, o, s, h⟩
theorem RGl.r {F : Mem} {g : Value} {xs : List Int} (h : RGl F g xs) (ι : Nat → Nat) : RGl F (r1 ι g) xs := by rw [h.sl.r]; exact h
theorem SameG_C (F : Mem) (v u : Value) (xs ys : List Int) (hv : RGl F v xs) (hu : RGl F u ys) : C0 Try.prog 16 [v, u] F (.bool (decide (xs = ys))) := by
  rcases hv.forms with hv | ⟨rfl, b, o, s, rfl⟩
  · rcases hu.forms with hu | ⟨rfl, b, o, s, rfl⟩
    · exact Same_C F v u xs ys hv hu
    · rcases hv with ⟨vb, vo, vc, rfl, _, _⟩ | ⟨rfl, rfl⟩
      all_goals
        refine C.go hT Try.func16 Try.ntmps16 ?_
        refine sq ?_
        refine rg ?_
        refine st (h := O) ?_
        refine nl ?_
        iterate 2 (refine sq ?_)
        refine rg ?_
        iterate 5 (refine st (h := O) ?_)
        refine nl ?_
        refine cN (fun c0 => ?_) (fun c0 => ?_)
        ·refine sq ?_
         refine rg ?_
         refine st (h := O) ?_
         refine nl ?_
         refine rt ⟨?_, rfl⟩
         first
           | exact absurd rfl c0
           | (have : xs ≠ [] := fun e => c0 (by rw [e]; rfl)
              simp [this])
        ·try (have hx : xs = [] := List.eq_nil_of_length_eq_zero (by omega)
              subst hx)
         refine sk ?_
         iterate 2 (refine sq ?_)
         refine rg ?_
         refine st (h := O) ?_
         refine nl ?_
         refine bl ?_
         refine J.loop1 (α := Nat) (fun k => k = 0) (fun k => [(5, .int .i64 k)]) [(0, _), (1, _)] (fun k => []) [] (fun k => 0) (0) (by exact ⟨rfl, trivial⟩) (by exact ⟨rfl, rfl, trivial⟩) (by exact trivial) ?_ ?_
         · rfl
         ·intro k L1 K1 e1 e2 hI
          dsimp only [apV, apR, List.cons_append, List.nil_append] at e1 e2
          subst e1 e2
          subst hI
          iterate 2 (refine sq ?_)
          refine rg ?_
          iterate 4 (refine st (h := O) ?_)
          refine nl ?_
          refine cD (fun c1 => ?_) (fun c1 => ?_)
          ·exact absurd c1 (by decide)
          ·refine ex ?_
           refine sq ?_
           refine rg ?_
           refine st (h := O) ?_
           refine nl ?_
           exact rt ⟨rfl, rfl⟩
  · have hu2 := hu
    rcases hu.forms with (⟨ub, uo, uc, rfl, _, _⟩ | ⟨rfl, rfl⟩) | ⟨rfl, ub, uo, us, rfl⟩
    all_goals
      refine C.go hT Try.func16 Try.ntmps16 ?_
      refine sq ?_
      refine rg ?_
      refine st (h := O) ?_
      refine nl ?_
      iterate 2 (refine sq ?_)
      refine rg ?_
      iterate 5 (refine st (h := O) ?_)
      refine nl ?_
      refine cN (fun c0 => ?_) (fun c0 => ?_)
      ·refine sq ?_
       refine rg ?_
       refine st (h := O) ?_
       refine nl ?_
       refine rt ⟨?_, rfl⟩
       first
         | exact absurd rfl c0
         | (have : ys ≠ [] := fun e => c0 (by rw [e]; rfl)
            simp [Ne.symm this])
      ·try (have hx : ys = [] := List.eq_nil_of_length_eq_zero (by omega)
            subst hx)
       refine sk ?_
       iterate 2 (refine sq ?_)
       refine rg ?_
       refine st (h := O) ?_
       refine nl ?_
       refine bl ?_
       refine J.loop1 (α := Nat) (fun k => k = 0) (fun k => [(5, .int .i64 k)]) [(0, _), (1, _)] (fun k => []) [] (fun k => 0) (0) (by exact ⟨rfl, trivial⟩) (by exact ⟨rfl, rfl, trivial⟩) (by exact trivial) ?_ ?_
       · rfl
       ·intro k L1 K1 e1 e2 hI
        dsimp only [apV, apR, List.cons_append, List.nil_append] at e1 e2
        subst e1 e2
        subst hI
        iterate 2 (refine sq ?_)
        refine rg ?_
        iterate 4 (refine st (h := O) ?_)
        refine nl ?_
        refine cD (fun c1 => ?_) (fun c1 => ?_)
        ·exact absurd c1 (by decide)
        ·refine ex ?_
         refine sq ?_
         refine rg ?_
         refine st (h := O) ?_
         refine nl ?_
         exact rt ⟨rfl, rfl⟩
theorem One_C (F : Mem) (x y : Item) (g h : Value) (hg : RGl F g x.glyphs) (hh : RGl F h y.glyphs) : C0 Try.prog 35 [.agg ⟨x.cells g⟩, .agg ⟨y.cells h⟩] F (.bool (decide (x = y))) := by
  have hS : ∀ G, RGl G g x.glyphs → RGl G h y.glyphs → C0 Try.prog 16 [g, h] G (.bool (decide (x.glyphs = y.glyphs))) := fun G h1 h2 => SameG_C G g h _ _ h1 h2
  obtain ⟨x0, x1, x2, x3, x4, x5, x6, x7, x8, x9, xg⟩ := x
  obtain ⟨y0, y1, y2, y3, y4, y5, y6, y7, y8, y9, yg⟩ := y
  dsimp only at hg hh hS
  have sg := hg.sl
  have sh := hh.sl
  rcases sg with (⟨gb, go, gn, gc, rfl⟩ | ⟨gn, gc, rfl⟩) | ⟨gb, go, gs, gn, gc, rfl⟩ <;> rcases sh with (⟨hb, ho, hn, hc, rfl⟩ | ⟨hn, hc, rfl⟩) | ⟨hb, ho, hs, hn, hc, rfl⟩
  all_goals
    refine C.go hT Try.func35 Try.ntmps35 ?_
    refine sq ?_
    refine rg ?_
    iterate 2 (refine bx ?_)
    refine st (h := O) ?_
    refine nl ?_
    refine sq ?_
    refine rg ?_
    refine st (h := sdFA) ?_
    refine st (h := sdL) ?_
    refine st (h := sdFA) ?_
    refine st (h := sdL) ?_
    iterate 2 (refine st (h := O) ?_)
    refine gD (fun g10 => ?_) (fun g10 => ?_)
    ·refine sg (h := sdFA) ?_
     refine sg (h := sdL) ?_
     refine sg (h := sdFA) ?_
     refine sg (h := sdL) ?_
     refine sg (h := O) ?_
     iterate 2 (refine st (h := O) ?_)
     refine gD (fun g17 => ?_) (fun g17 => ?_)
     ·refine sg (h := sdFA) ?_
      refine sg (h := sdL) ?_
      refine sg (h := sdFA) ?_
      refine sg (h := sdL) ?_
      refine sg (h := O) ?_
      iterate 2 (refine st (h := O) ?_)
      refine gD (fun g24 => ?_) (fun g24 => ?_)
      ·refine sg (h := sdFA) ?_
       refine sg (h := sdL) ?_
       refine sg (h := sdFA) ?_
       refine sg (h := sdL) ?_
       refine sg (h := O) ?_
       iterate 2 (refine st (h := O) ?_)
       refine gD (fun g31 => ?_) (fun g31 => ?_)
       ·refine sg (h := sdFA) ?_
        refine sg (h := sdL) ?_
        refine sg (h := sdFA) ?_
        refine sg (h := sdL) ?_
        refine sg (h := O) ?_
        iterate 2 (refine st (h := O) ?_)
        refine gD (fun g38 => ?_) (fun g38 => ?_)
        ·refine sg (h := sdFA) ?_
         refine sg (h := sdL) ?_
         refine sg (h := sdFA) ?_
         refine sg (h := sdL) ?_
         refine sg (h := sbEq) ?_
         iterate 2 (refine st (h := O) ?_)
         refine gB (fun g45 => ?_) (fun g45 => ?_)
         ·refine sg (h := sdFA) ?_
          refine sg (h := sdL) ?_
          refine sg (h := sdFA) ?_
          refine sg (h := sdL) ?_
          refine sg (h := O) ?_
          iterate 2 (refine st (h := O) ?_)
          refine gD (fun g52 => ?_) (fun g52 => ?_)
          ·refine sg (h := sdFA) ?_
           refine sg (h := sdL) ?_
           refine sg (h := sdFA) ?_
           refine sg (h := sdL) ?_
           refine sg (h := O) ?_
           iterate 2 (refine st (h := O) ?_)
           refine gD (fun g59 => ?_) (fun g59 => ?_)
           ·refine sg (h := sdFA) ?_
            refine sg (h := sdL) ?_
            refine sg (h := sdFA) ?_
            refine sg (h := sdL) ?_
            refine sg (h := O) ?_
            iterate 2 (refine st (h := O) ?_)
            refine gD (fun g66 => ?_) (fun g66 => ?_)
            ·refine sg (h := sdFA) ?_
             refine sg (h := sdL) ?_
             refine sg (h := sdFA) ?_
             refine sg (h := sdL) ?_
             refine sg (h := O) ?_
             iterate 2 (refine st (h := O) ?_)
             refine gD (fun g73 => ?_) (fun g73 => ?_)
             ·refine sg (h := sdFA) ?_
              refine sg (h := sdL) ?_
              refine sg (h := sdFA) ?_
              refine sg (h := sdL) ?_
              refine clg (h := by exact fun ι hV hl => hS _ (hg.le hl) (hh.le hl)) ?_
              iterate 2 (refine st (h := O) ?_)
              refine nl ?_
              refine rt ⟨congrArg Value.bool ?_, rfl⟩
              simp only [Item.mk.injEq]
              simp_all
             ·refine sp ?_
              iterate 4 (refine sp ?_)
              iterate 2 (refine st (h := O) ?_)
              refine nl ?_
              refine rt ⟨congrArg Value.bool ?_, rfl⟩
              simp only [Item.mk.injEq]
              simp_all
            ·refine sp ?_
             iterate 4 (refine sp ?_)
             iterate 2 (refine st (h := O) ?_)
             iterate 5 (refine sp ?_)
             iterate 2 (refine st (h := O) ?_)
             refine nl ?_
             refine rt ⟨congrArg Value.bool ?_, rfl⟩
             simp only [Item.mk.injEq]
             simp_all
           ·refine sp ?_
            iterate 4 (refine sp ?_)
            iterate 2 (refine st (h := O) ?_)
            iterate 5 (refine sp ?_)
            iterate 2 (refine st (h := O) ?_)
            iterate 5 (refine sp ?_)
            iterate 2 (refine st (h := O) ?_)
            refine nl ?_
            refine rt ⟨congrArg Value.bool ?_, rfl⟩
            simp only [Item.mk.injEq]
            simp_all
          ·refine sp ?_
           iterate 4 (refine sp ?_)
           iterate 2 (refine st (h := O) ?_)
           iterate 5 (refine sp ?_)
           iterate 2 (refine st (h := O) ?_)
           iterate 5 (refine sp ?_)
           iterate 2 (refine st (h := O) ?_)
           iterate 5 (refine sp ?_)
           iterate 2 (refine st (h := O) ?_)
           refine nl ?_
           refine rt ⟨congrArg Value.bool ?_, rfl⟩
           simp only [Item.mk.injEq]
           simp_all
         ·refine sp ?_
          iterate 4 (refine sp ?_)
          iterate 2 (refine st (h := O) ?_)
          iterate 5 (refine sp ?_)
          iterate 2 (refine st (h := O) ?_)
          iterate 5 (refine sp ?_)
          iterate 2 (refine st (h := O) ?_)
          iterate 5 (refine sp ?_)
          iterate 2 (refine st (h := O) ?_)
          iterate 5 (refine sp ?_)
          iterate 2 (refine st (h := O) ?_)
          refine nl ?_
          refine rt ⟨congrArg Value.bool ?_, rfl⟩
          simp only [Item.mk.injEq]
          simp_all
        ·refine sp ?_
         iterate 4 (refine sp ?_)
         iterate 2 (refine st (h := O) ?_)
         iterate 5 (refine sp ?_)
         iterate 2 (refine st (h := O) ?_)
         iterate 5 (refine sp ?_)
         iterate 2 (refine st (h := O) ?_)
         iterate 5 (refine sp ?_)
         iterate 2 (refine st (h := O) ?_)
         iterate 5 (refine sp ?_)
         iterate 2 (refine st (h := O) ?_)
         iterate 5 (refine sp ?_)
         iterate 2 (refine st (h := O) ?_)
         refine nl ?_
         refine rt ⟨congrArg Value.bool ?_, rfl⟩
         simp only [Item.mk.injEq]
         simp_all
       ·refine sp ?_
        iterate 4 (refine sp ?_)
        iterate 2 (refine st (h := O) ?_)
        iterate 5 (refine sp ?_)
        iterate 2 (refine st (h := O) ?_)
        iterate 5 (refine sp ?_)
        iterate 2 (refine st (h := O) ?_)
        iterate 5 (refine sp ?_)
        iterate 2 (refine st (h := O) ?_)
        iterate 5 (refine sp ?_)
        iterate 2 (refine st (h := O) ?_)
        iterate 5 (refine sp ?_)
        iterate 2 (refine st (h := O) ?_)
        iterate 5 (refine sp ?_)
        iterate 2 (refine st (h := O) ?_)
        refine nl ?_
        refine rt ⟨congrArg Value.bool ?_, rfl⟩
        simp only [Item.mk.injEq]
        simp_all
      ·refine sp ?_
       iterate 4 (refine sp ?_)
       iterate 2 (refine st (h := O) ?_)
       iterate 5 (refine sp ?_)
       iterate 2 (refine st (h := O) ?_)
       iterate 5 (refine sp ?_)
       iterate 2 (refine st (h := O) ?_)
       iterate 5 (refine sp ?_)
       iterate 2 (refine st (h := O) ?_)
       iterate 5 (refine sp ?_)
       iterate 2 (refine st (h := O) ?_)
       iterate 5 (refine sp ?_)
       iterate 2 (refine st (h := O) ?_)
       iterate 5 (refine sp ?_)
       iterate 2 (refine st (h := O) ?_)
       iterate 5 (refine sp ?_)
       iterate 2 (refine st (h := O) ?_)
       refine nl ?_
       refine rt ⟨congrArg Value.bool ?_, rfl⟩
       simp only [Item.mk.injEq]
       simp_all
     ·refine sp ?_
      iterate 4 (refine sp ?_)
      iterate 2 (refine st (h := O) ?_)
      iterate 5 (refine sp ?_)
      iterate 2 (refine st (h := O) ?_)
      iterate 5 (refine sp ?_)
      iterate 2 (refine st (h := O) ?_)
      iterate 5 (refine sp ?_)
      iterate 2 (refine st (h := O) ?_)
      iterate 5 (refine sp ?_)
      iterate 2 (refine st (h := O) ?_)
      iterate 5 (refine sp ?_)
      iterate 2 (refine st (h := O) ?_)
      iterate 5 (refine sp ?_)
      iterate 2 (refine st (h := O) ?_)
      iterate 5 (refine sp ?_)
      iterate 2 (refine st (h := O) ?_)
      iterate 5 (refine sp ?_)
      iterate 2 (refine st (h := O) ?_)
      refine nl ?_
      refine rt ⟨congrArg Value.bool ?_, rfl⟩
      simp only [Item.mk.injEq]
      simp_all
    ·refine sp ?_
     iterate 4 (refine sp ?_)
     iterate 2 (refine st (h := O) ?_)
     iterate 5 (refine sp ?_)
     iterate 2 (refine st (h := O) ?_)
     iterate 5 (refine sp ?_)
     iterate 2 (refine st (h := O) ?_)
     iterate 5 (refine sp ?_)
     iterate 2 (refine st (h := O) ?_)
     iterate 5 (refine sp ?_)
     iterate 2 (refine st (h := O) ?_)
     iterate 5 (refine sp ?_)
     iterate 2 (refine st (h := O) ?_)
     iterate 5 (refine sp ?_)
     iterate 2 (refine st (h := O) ?_)
     iterate 5 (refine sp ?_)
     iterate 2 (refine st (h := O) ?_)
     iterate 5 (refine sp ?_)
     iterate 2 (refine st (h := O) ?_)
     iterate 5 (refine sp ?_)
     iterate 2 (refine st (h := O) ?_)
     refine nl ?_
     refine rt ⟨congrArg Value.bool ?_, rfl⟩
     simp only [Item.mk.injEq]
     simp_all
theorem same_takeI {l m : List Item} {k : Nat} (hl : l.length = m.length) (hk : k < l.length) (h : l.take k = m.take k) (e : at_ l k = at_ m k) : l.take (k + 1) = m.take (k + 1) := by
  rw [List.take_add_one, List.take_add_one, h, at_get hk, at_get (hl ▸ hk), e]
theorem SameItems_C (F : Mem) (v u : Value) (l m : List Item) (hv : RItems F v l) (hu : RItems F u m) : C0 Try.prog 15 [v, u] F (.bool (decide (l = m))) := by
  rcases hv.cases with ⟨vb, vo, vc, rfl, _, hr⟩ | ⟨rfl, rfl⟩ <;> rcases hu.cases with ⟨ub, uo, uc, rfl, _, hr2⟩ | ⟨rfl, rfl⟩
  ·
    refine C.go hT Try.func15 Try.ntmps15 ?_
    refine sq ?_
    refine rg ?_
    refine st (h := O) ?_
    refine nl ?_
    iterate 2 (refine sq ?_)
    refine rg ?_
    iterate 5 (refine st (h := O) ?_)
    refine nl ?_
    refine cN (fun c0 => ?_) (fun c0 => ?_)
    ·refine sq ?_
     refine rg ?_
     refine st (h := O) ?_
     refine nl ?_
     refine rt ⟨?_, rfl⟩
     have : l ≠ m := fun e => c0 (by rw [e])
     simp [this]
    ·have hlm : l.length = m.length := by omega
     refine sk ?_
     iterate 2 (refine sq ?_)
     refine rg ?_
     refine st (h := O) ?_
     refine nl ?_
     refine bl ?_
     refine J.loop1 (α := Nat) (fun k => k ≤ l.length ∧ l.take k = m.take k) (fun k => [(5, .int .i64 k)]) [(0, _), (1, _)] (fun k => []) [] (fun k => l.length - k) (0) (by exact ⟨rfl, trivial⟩) (by exact ⟨rfl, rfl, trivial⟩) (by exact trivial) ?_ ?_
     · exact ⟨Nat.zero_le _, rfl⟩
     ·intro k L1 K1 e1 e2 hI
      dsimp only [apV, apR, List.cons_append, List.nil_append] at e1 e2
      subst e1 e2
      obtain ⟨hk, hok⟩ := hI
      iterate 2 (refine sq ?_)
      refine rg ?_
      iterate 4 (refine st (h := O) ?_)
      refine nl ?_
      refine cD (fun c1 => ?_) (fun c1 => ?_)
      ·have hkl : k < l.length := by omega
       obtain ⟨_, _, _, _, _, _, g, hg2, hri⟩ := hr k hkl
       obtain ⟨_, _, _, _, _, _, g', hg2', hri'⟩ := hr2 k (by omega)
       have hN1 : ∀ K, rdN F K ⟨vb, vo + (k : Int).toNat * 11, none⟩ 11 = some ((at_ l k).cells g) := fun K => hg2
       have hN2 : ∀ K, rdN F K ⟨ub, uo + (k : Int).toNat * 11, none⟩ 11 = some ((at_ m k).cells g') := fun K => hg2'
       refine sk ?_
       refine sq ?_
       refine bl ?_
       refine sq ?_
       refine dr 10 [] [0, 1, 2, 3, 4, 5, 6, 7, 1008, 9] ?_
       iterate 2 (refine dt (hv := by exact O) ?_)
       refine dt (hv := by exact (sdX (z := 11))) ?_
       refine dt (hv := by exact sdLN (hv := hN1 _)) ?_
       iterate 2 (refine dt (hv := by exact O) ?_)
       refine dt (hv := by exact (sdX (z := 11))) ?_
       refine dt (hv := by exact sdLN (hv := hN2 _)) ?_
       refine dcl (hkp := by first | exact Kept.all | exact Kept.k0 | exact Kept.kY | exact Kept.kYY | exact Kept.kY3) (h := by exact fun ι hV hl => One_C _ (at_ l k) (at_ m k) _ _ ((hri.le hl).r _) ((hri'.le hl).r _)) ?_
       refine dt (hv := by exact O) ?_
       refine dn ?_
       refine cB (fun c2 => ?_) (fun c2 => ?_)
       ·refine sq ?_
        refine rg ?_
        refine st (h := O) ?_
        refine nl ?_
        refine rt ⟨?_, rfl⟩
        have hne : at_ l k ≠ at_ m k := by simpa using c2
        have : l ≠ m := fun e => hne (by rw [e])
        simp [this]
       ·refine sk ?_
        refine bk ?_
        refine rg ?_
        refine st (h := O) ?_
        refine st (h := sdA) ?_
        refine st (h := O) ?_
        refine nl ?_
        refine bk1 (k + 1) (by exact ⟨rfl, trivial⟩) (by exact ⟨rfl, rfl, trivial⟩) (by exact trivial) ?_ ?_
        · omega
        · exact ⟨by omega, same_takeI hlm hkl hok (by simpa using c2)⟩
      ·obtain rfl : k = l.length := by omega
       rw [List.take_length, hlm, List.take_length] at hok
       refine ex ?_
       refine sq ?_
       refine rg ?_
       refine st (h := O) ?_
       refine nl ?_
       refine rt ⟨?_, rfl⟩
       simp [hok]
  ·
    refine C.go hT Try.func15 Try.ntmps15 ?_
    refine sq ?_
    refine rg ?_
    refine st (h := O) ?_
    refine nl ?_
    iterate 2 (refine sq ?_)
    refine rg ?_
    iterate 5 (refine st (h := O) ?_)
    refine nl ?_
    refine cN (fun c0 => ?_) (fun c0 => ?_)
    ·refine sq ?_
     refine rg ?_
     refine st (h := O) ?_
     refine nl ?_
     refine rt ⟨?_, rfl⟩
     have : l ≠ [] := fun e => c0 (by rw [e]; rfl)
     simp [this]
    ·have hx : l = [] := List.eq_nil_of_length_eq_zero (by omega)
     subst hx
     refine sk ?_
     iterate 2 (refine sq ?_)
     refine rg ?_
     refine st (h := O) ?_
     refine nl ?_
     refine bl ?_
     refine J.loop1 (α := Nat) (fun k => k = 0) (fun k => [(5, .int .i64 k)]) [(0, _), (1, _)] (fun k => []) [] (fun k => 0) (0) (by exact ⟨rfl, trivial⟩) (by exact ⟨rfl, rfl, trivial⟩) (by exact trivial) ?_ ?_
     · rfl
     ·intro k L1 K1 e1 e2 hI
      dsimp only [apV, apR, List.cons_append, List.nil_append] at e1 e2
      subst e1 e2
      subst hI
      iterate 2 (refine sq ?_)
      refine rg ?_
      iterate 4 (refine st (h := O) ?_)
      refine nl ?_
      refine cD (fun c1 => ?_) (fun c1 => ?_)
      ·exact absurd c1 (by decide)
      ·refine ex ?_
       refine sq ?_
       refine rg ?_
       refine st (h := O) ?_
       refine nl ?_
       exact rt ⟨rfl, rfl⟩
  ·
    refine C.go hT Try.func15 Try.ntmps15 ?_
    refine sq ?_
    refine rg ?_
    refine st (h := O) ?_
    refine nl ?_
    iterate 2 (refine sq ?_)
    refine rg ?_
    iterate 5 (refine st (h := O) ?_)
    refine nl ?_
    refine cN (fun c0 => ?_) (fun c0 => ?_)
    ·refine sq ?_
     refine rg ?_
     refine st (h := O) ?_
     refine nl ?_
     refine rt ⟨?_, rfl⟩
     have : m ≠ [] := fun e => c0 (by rw [e]; rfl)
     simp [Ne.symm this]
    ·have hx : m = [] := List.eq_nil_of_length_eq_zero (by omega)
     subst hx
     refine sk ?_
     iterate 2 (refine sq ?_)
     refine rg ?_
     refine st (h := O) ?_
     refine nl ?_
     refine bl ?_
     refine J.loop1 (α := Nat) (fun k => k = 0) (fun k => [(5, .int .i64 k)]) [(0, _), (1, _)] (fun k => []) [] (fun k => 0) (0) (by exact ⟨rfl, trivial⟩) (by exact ⟨rfl, rfl, trivial⟩) (by exact trivial) ?_ ?_
     · rfl
     ·intro k L1 K1 e1 e2 hI
      dsimp only [apV, apR, List.cons_append, List.nil_append] at e1 e2
      subst e1 e2
      subst hI
      iterate 2 (refine sq ?_)
      refine rg ?_
      iterate 4 (refine st (h := O) ?_)
      refine nl ?_
      refine cD (fun c1 => ?_) (fun c1 => ?_)
      ·exact absurd c1 (by decide)
      ·refine ex ?_
       refine sq ?_
       refine rg ?_
       refine st (h := O) ?_
       refine nl ?_
       exact rt ⟨rfl, rfl⟩
  ·
    refine C.go hT Try.func15 Try.ntmps15 ?_
    refine sq ?_
    refine rg ?_
    refine st (h := O) ?_
    refine nl ?_
    iterate 2 (refine sq ?_)
    refine rg ?_
    iterate 5 (refine st (h := O) ?_)
    refine nl ?_
    refine cN (fun c0 => ?_) (fun c0 => ?_)
    ·exact absurd rfl c0
    ·refine sk ?_
     iterate 2 (refine sq ?_)
     refine rg ?_
     refine st (h := O) ?_
     refine nl ?_
     refine bl ?_
     refine J.loop1 (α := Nat) (fun k => k = 0) (fun k => [(5, .int .i64 k)]) [(0, _), (1, _)] (fun k => []) [] (fun k => 0) (0) (by exact ⟨rfl, trivial⟩) (by exact ⟨rfl, rfl, trivial⟩) (by exact trivial) ?_ ?_
     · rfl
     ·intro k L1 K1 e1 e2 hI
      dsimp only [apV, apR, List.cons_append, List.nil_append] at e1 e2
      subst e1 e2
      subst hI
      iterate 2 (refine sq ?_)
      refine rg ?_
      iterate 4 (refine st (h := O) ?_)
      refine nl ?_
      refine cD (fun c1 => ?_) (fun c1 => ?_)
      ·exact absurd c1 (by decide)
      ·refine ex ?_
       refine sq ?_
       refine rg ?_
       refine st (h := O) ?_
       refine nl ?_
       exact rt ⟨rfl, rfl⟩
end Go.Proofs.Ytnkddjdmpnghmaa.Am
namespace Go.Proofs.Ytnkddjdmpnghmaa.Am
set_option linter.unusedSimpArgs false
set_option linter.unusedVariables false
set_option maxRecDepth 100000
set_option maxHeartbeats 4000000
open Go Go.RowKit
def shownL : List Item := fiveL.map fun x => if x.kind = 1 then { x with glyphs := [7] } else x
def mixL (i : Nat) : List Item := shownL.take i ++ fiveL.drop i
def TIt (F : Mem) (x : Item) (cs : List Value) : Prop := ∃ g, cs = x.cells g ∧ RInts F g x.glyphs
theorem FiveR_C (F : Mem) : C Try.prog 45 [] F (fun u Y => ∃ b c, u = .slice (some ⟨b, 0, none⟩) 12 c ∧ Y = [(b, { elem := 49, cs := cellsI fiveL, room := c * 11, fz := false, flat := true })] ∧ 12 ≤ c ∧ c ≤ 9223372036854775807) := by
  refine C.go hT Try.func45 Try.ntmps45 ?_
  refine sq ?_
  refine rg ?_
  refine st (h := O) ?_
  refine nl ?_
  refine sq ?_
  refine rg ?_
  refine st (h := O) ?_
  refine nl ?_
  iterate 2 (refine sq ?_)
  refine rg ?_
  refine st (h := O) ?_
  refine nl ?_
  refine bl ?_
  refine J.loop4 (α := Option Nat) (β := Nat) (γ := Nat) (δ := List Value) (fun o m i cs => i ≤ 5 ∧ m = (fivePre i).length ∧ apB o m ∧ cs = cellsI (fivePre i) ∧ (i = 0 ↔ o = none)) (fun o m i cs => [(1, apV 16 o m), (2, .int .i64 i)]) [] (fun o m i cs => apR 16 49 11 true o cs ++ []) [] (fun o m i cs => 5 - i) (none) (0) (0) ([]) (by exact ⟨rfl, rfl, trivial⟩) (by exact trivial) (by exact (by repeat' first | exact trivial | refine And.intro rfl ?_)) ?_ ?_
  · exact ⟨by omega, rfl, rfl, rfl, by simp⟩
  ·intro o m i cs L1 K1 e1 e2 hI
   rcases o with _ | cap_o
   all_goals
    dsimp only [apV, apR, List.cons_append, List.nil_append] at e1 e2
    subst e1 e2
    obtain ⟨hi5, hm, hap, hcs, hio⟩ := hI
    simp only [apB] at hap
    simp only [reduceCtorEq, iff_false, iff_true] at hio
    have hcl : cs.length = m * 11 := by rw [hcs, hm, cellsI_len]
    have hml : m ≤ 2 * i := hm ▸ fivePre_len i
    iterate 2 (refine sq ?_)
    refine rg ?_
    iterate 2 (refine st (h := O) ?_)
    refine nl ?_
    refine cD (fun c0 => ?_) (fun c0 => ?_)
    ·have hi4 : i < 5 := by omega
     refine sk ?_
     refine sq ?_
     refine bl ?_
     iterate 2 (refine sq ?_)
     refine rg ?_
     iterate 2 (refine st (h := O) ?_)
     refine nl ?_
     refine cD (fun c1 => ?_) (fun c1 => ?_)
     ·refine rg ?_
      iterate 2 (refine st (h := O) ?_)
      refine sl ?_
      first | refine apN (news := [_, _, _, _, _, _, _, _, _, _, _]) 16 true [(2, _)] [] ?_ | refine apO (news := [_, _, _, _, _, _, _, _, _, _, _]) 1016 16 [(2, _)] [] ?_
      intro cap12 hc12 hd12
      refine st (h := O) ?_
      refine nl ?_
      refine rg ?_
      iterate 2 (refine st (h := O) ?_)
      refine sl ?_
      first | refine apO (news := [_, _, _, _, _, _, _, _, _, _, _]) 1016 16 [(2, _)] [] ?_
      intro cap16 hc16 hd16
      refine st (h := O) ?_
      refine nl ?_
      refine bk ?_
      refine rg ?_
      refine st (h := O) ?_
      refine st (h := sdA) ?_
      refine st (h := O) ?_
      refine nl ?_
      refine bk4 (some _) (_) (i + 1) (_) (by exact ⟨rfl, rfl, trivial⟩) (by exact trivial) (by exact (by repeat' first | exact trivial | refine And.intro rfl ?_)) ?_ ?_
      · omega
      · have hst : fivePre (i + 1) = fivePre i ++ (if 0 < i then [gluI, boxI] else [boxI]) := rfl
        first
          | (exfalso; omega)
          | (rw [if_pos (by omega)] at hst
             exact ⟨by omega, by rw [hst, List.length_append, ← hm]; rfl, ⟨by omega, by omega⟩, by rw [hst, cellsI_app, ← hcs, List.append_assoc]; rfl, by simp⟩)
          | (subst hio
             exact ⟨by omega, rfl, ⟨by omega, by omega⟩, rfl, by simp⟩)
     ·refine sk ?_
      refine rg ?_
      iterate 2 (refine st (h := O) ?_)
      refine sl ?_
      first | refine apN (news := [_, _, _, _, _, _, _, _, _, _, _]) 16 true [(2, _)] [] ?_ | refine apO (news := [_, _, _, _, _, _, _, _, _, _, _]) 1016 16 [(2, _)] [] ?_
      intro cap16 hc16 hd16
      refine st (h := O) ?_
      refine nl ?_
      refine bk ?_
      refine rg ?_
      refine st (h := O) ?_
      refine st (h := sdA) ?_
      refine st (h := O) ?_
      refine nl ?_
      refine bk4 (some _) (_) (i + 1) (_) (by exact ⟨rfl, rfl, trivial⟩) (by exact trivial) (by exact (by repeat' first | exact trivial | refine And.intro rfl ?_)) ?_ ?_
      · omega
      · have hst : fivePre (i + 1) = fivePre i ++ (if 0 < i then [gluI, boxI] else [boxI]) := rfl
        first
          | (exfalso; omega)
          | (rw [if_pos (by omega)] at hst
             exact ⟨by omega, by rw [hst, List.length_append, ← hm]; rfl, ⟨by omega, by omega⟩, by rw [hst, cellsI_app, ← hcs, List.append_assoc]; rfl, by simp⟩)
          | (subst hio
             exact ⟨by omega, rfl, ⟨by omega, by omega⟩, rfl, by simp⟩)
    ·obtain rfl : i = 5 := by omega
     refine ex ?_
     refine sq ?_
     refine rg ?_
     iterate 4 (refine st (h := O) ?_)
     refine sl ?_
     first | refine apN (news := [_, _, _, _, _, _, _, _, _, _, _, _, _, _, _, _, _, _, _, _, _, _, _, _, _, _, _, _, _, _, _, _, _]) 16 true [] [] ?_ | refine apO (news := [_, _, _, _, _, _, _, _, _, _, _, _, _, _, _, _, _, _, _, _, _, _, _, _, _, _, _, _, _, _, _, _, _]) 1016 16 [] [] ?_
     intro cap22 hc22 hd22
     refine st (h := O) ?_
     refine nl ?_
     first
       | (exfalso; omega)
       | (refine J.weak (L0 := [(0, _)]) (K0 := [(16, _)]) (by exact ⟨rfl, trivial⟩) (by exact ⟨rfl, rfl, trivial⟩) ?_
          refine rtX (v := .slice (some ⟨16, 0, some 0⟩) (m + 3) cap22) fun ι hV => ⟨ι 16, cap22, by rw [show 12 = m + 3 from by rw [hm]; rfl]; rfl, ?_, ?_, ?_⟩
          rotate_left
          · have h9 : (fivePre 5).length = 9 := rfl
            omega
          · omega
          · rw [List.map_cons, List.map_nil]
            refine congrArg (fun z => [(ι 16, z)]) ?_
            refine congrArg (fun z => (Row.mk _ z _ _ _)) ?_
            show List.map (r1 ι) _ = _
            rw [hcs]
            show (List.map (r1 ι) (cellsI (fivePre 5) ++ cellsI [⟨3, 0, 0, 0, 10000, false, 0, 0, 0, 0, []⟩, ⟨2, 0, 1073741824, 0, 0, false, 0, 0, 0, 0, []⟩, ⟨3, 0, 0, 0, -10000, false, 0, 0, 0, 0, []⟩])) = _
            rw [← cellsI_app, cellsI_c]
            rfl)
theorem put_LR {α : Type} {sz : Nat} {T : Mem → α → List Value → Prop} {Y Z : List (Nat × Row)} {xs : List α} {cs : List Value} (h : LR sz T Y xs cs) {i j : Nat} {x x' : α} {v : Value} (hx : xs[i]? = some x) (hj : j < sz) (hv : plain1 v = true) (hT : ∀ c, (∀ G, Rd G Y → T G x c) → ∀ G, Rd G (Z ++ Y) → T G x' (c.set j v)) : LR sz T (Z ++ Y) (xs.set i x') (cs.take (i * sz + j) ++ v :: cs.drop (i * sz + j + 1)) := by
  have hi := (List.getElem?_eq_some_iff.1 hx).1
  have hlt : i * sz + j < cs.length := by
    rw [h.len]
    calc i * sz + j < i * sz + sz := by omega
      _ = (i + 1) * sz := by rw [Nat.add_mul, Nat.one_mul]
      _ ≤ xs.length * sz := Nat.mul_le_mul_right _ hi
  have e : cs.take (i * sz + j) ++ v :: cs.drop (i * sz + j + 1) = cs.set (i * sz + j) v := by rw [List.set_eq_take_append_cons_drop, if_pos hlt]
  rw [e]
  refine ⟨by rw [List.length_set, List.length_set, h.len], fun u hu => ?_, fun k y hy => ?_⟩
  · rcases List.mem_or_eq_of_mem_set hu with hu | rfl
    · exact h.pl u hu
    · exact hv
  · by_cases hk : i = k
    · subst hk
      rw [List.getElem?_set_self hi] at hy
      simp only [Option.some.injEq] at hy
      subst hy
      obtain ⟨c, h1, h2, h3⟩ := h.el i x hx
      refine ⟨c.set j v, by rw [List.length_set, h1], hT c h2, fun q u hu => ?_⟩
      rw [List.getElem?_set] at hu ⊢
      split at hu
      · rename_i e
        subst e
        rw [if_pos rfl, if_pos (by omega)]
        rw [if_pos (by omega)] at hu
        exact hu
      · rename_i e
        rw [if_neg (by omega)]
        exact h3 q u hu
    · rw [List.getElem?_set_ne hk] at hy
      obtain ⟨c, h1, h2, h3⟩ := h.el k y hy
      refine ⟨c, h1, fun G hG => h2 G hG.app_right, fun q u hu => ?_⟩
      have hq : q < sz := by rw [← h1]; exact (List.getElem?_eq_some_iff.1 hu).1
      have hne : i * sz + j ≠ k * sz + q := by
        intro e
        rcases Nat.lt_or_gt_of_ne hk with h | h
        · have : (i + 1) * sz ≤ k * sz := Nat.mul_le_mul_right _ h
          rw [Nat.add_mul, Nat.one_mul] at this
          omega
        · have : (k + 1) * sz ≤ i * sz := Nat.mul_le_mul_right _ h
          rw [Nat.add_mul, Nat.one_mul] at this
          omega
      rw [List.getElem?_set_ne hne]
      exact h3 q u hu
theorem items_LR {Y : List (Nat × Row)} {l : List Item} {cs : List Value} (h : LR 11 TIt Y l cs) {G : Mem} (hG : Rd G Y) {b n c : Nat} (hr : ∀ (o : Nat) (u : Value), cs[o]? = some u → look G ⟨b, o, none⟩ = some u) (hn : n = l.length) (h63 : l.length ≤ 9223372036854775807) : RItems G (.slice (some ⟨b, 0, none⟩) n c) l := by
  subst hn
  refine .inl ⟨b, 0, c, rfl, h63, fun i x hx => ?_⟩
  obtain ⟨c', h1, h2, h3⟩ := h.el i x hx
  obtain ⟨g, rfl, hg⟩ := h2 G hG
  refine ⟨g, ?_, .inl hg⟩
  have := lookN_of (F := G) (a := ⟨b, 0 + i * 11, none⟩) (cs := x.cells g) (fun j v hv => by
    refine hr (0 + i * 11 + j) v ?_
    rw [Nat.zero_add]
    exact h3 j v hv)
  rwa [h1] at this
theorem put1 (cs : List Value) (k : Nat) (v : Value) (h : k < cs.length) : putL cs k [v] = cs.take k ++ v :: cs.drop (k + 1) := by
  show cs.set k v = _
  rw [List.set_eq_take_append_cons_drop, if_pos h]
theorem mix_set : ∀ i, i < 12 → mixL (i + 1) = (mixL i).set i (at_ shownL i) ∧ ((mixL i)[i]? = some (at_ fiveL i)) ∧ ((at_ fiveL i).kind = 1 → at_ shownL i = { at_ fiveL i with glyphs := [7] }) ∧ (¬ (at_ fiveL i).kind = 1 → mixL (i + 1) = mixL i) := by decide
theorem five_LR : LR 11 TIt [] fiveL (cellsI fiveL) := by
  refine ⟨by decide, fun v hv => ?_, fun i x hx => ?_⟩
  · obtain ⟨y, hy, hu⟩ := List.mem_flatten.1 hv
    obtain ⟨x, _, rfl⟩ := List.mem_map.1 hy
    exact Item.cells_plain x rfl v hu
  · refine ⟨x.cells (.slice none 0 0), rfl, fun G _ => ⟨_, rfl, .inr ⟨rfl, ?_⟩⟩, fun j v hv => ?_⟩
    · exact (by decide : ∀ y ∈ fiveL, y.glyphs = []) x (List.mem_of_getElem? hx)
    · have hj : j < 11 := by have := (List.getElem?_eq_some_iff.1 hv).1; rwa [Item.cells_len] at this
      unfold cellsI
      rw [flat_at (fun y hy => by
        obtain ⟨k, _, rfl⟩ := List.mem_map.1 hy
        exact Item.cells_len _ _) hj, List.getElem?_map, hx]
      exact hv
theorem shown_C (F : Mem) : C Try.prog 25 [] F (fun u Y => (∃ b n c, u = .slice (some ⟨b, 0, none⟩) n c ∧ n ≤ c) ∧ ∀ G, Rd G Y → RItems G u shownL) := by
  refine C.go hT Try.func25 Try.ntmps25 ?_
  refine sq ?_
  refine rg ?_
  refine st (h := O) ?_
  refine nl ?_
  refine sq ?_
  refine rg ?_
  refine clC (h := by exact fun ι hV hl => FiveR_C _) ?_
  intro u1 Y1 hQ1 hv1 hp1 hN1
  obtain ⟨b, c, rfl, rfl, hc1, hc2⟩ := hQ1
  have hp5 := hp1 _ List.mem_cons_self
  refine JL.adoptV (d := 3) (t := 500001) (v' := .slice (some ⟨500001, 0, some 0⟩) 12 c) rfl (fun ι h => by show Value.slice (some ⟨ι 500001, 0, none⟩) 12 c = _; rw [h]; rfl) hp5 rfl rfl rfl ?_
  rw [show F.add [] = F from rfl]
  refine st (h := O) ?_
  refine nl ?_
  iterate 2 (refine sq ?_)
  refine rg ?_
  refine st (h := O) ?_
  refine nl ?_
  refine bl ?_
  refine J.gloop2 (α := Nat) (β := List Value) (fun Y i cs => i ≤ 12 ∧ LR 11 TIt Y (mixL i) cs) (fun i cs => [(2, .int .i64 i)]) [(1, _)] (fun i cs => [(500001, { elem := 49, cs := cs, room := c * 11, fz := false, flat := true })]) [] (fun i cs => 12 - i) (0) (cellsI fiveL) (by exact ⟨rfl, trivial⟩) (by exact ⟨rfl, trivial⟩) (by exact ⟨rfl, rfl, trivial⟩) ?_ ?_
  · exact ⟨Nat.zero_le _, five_LR⟩
  ·intro Y i cs L1 K1 e1 e2 hI hY hN
   dsimp only [apV, apR, List.cons_append, List.nil_append] at e1 e2
   subst e1 e2
   obtain ⟨hi, hLR⟩ := hI
   iterate 2 (refine sq ?_)
   refine rg ?_
   iterate 4 (refine st (h := O) ?_)
   refine nl ?_
   refine cD (fun c0 => ?_) (fun c0 => ?_)
   ·have hil : i < 12 := by omega
    obtain ⟨hm1, hm2, hm3, hm4⟩ := mix_set i hil
    obtain ⟨ce, hce, hTT, hcs⟩ := hLR.el i _ hm2
    obtain ⟨g0, rfl, _⟩ := hTT _ hN.rows
    have hd : cs[0 + (i : Int).toNat * 11 + 0]? = some (.int .i64 (at_ fiveL i).kind) := by
      rw [Nat.zero_add]
      exact hcs 0 _ rfl
    refine sk ?_
    refine sq ?_
    refine bl ?_
    refine sq ?_
    refine rg ?_
    iterate 2 (refine st (h := O) ?_)
    refine st (h := (sdX (z := 11))) ?_
    refine st (h := sdFA) ?_
    refine st (h := sdL (v := .int .i64 (at_ fiveL i).kind) (hv := by exact hd)) ?_
    refine st (h := O) ?_
    refine nl ?_
    refine cD (fun c1 => ?_) (fun c1 => ?_)
    ·have hlt : 0 + (i : Int).toNat * 11 + 10 < cs.length := by
       have := hLR.len
       rw [show (mixL i).length = 12 from by simp [mixL, show shownL.length = 12 from rfl, show fiveL.length = 12 from rfl]; omega] at this
       omega
     refine rg ?_
     iterate 2 (refine st (h := O) ?_)
     refine sl ?_
     refine st (h := (sdX (z := 11))) ?_
     refine st (h := sdFA) ?_
     refine so (hle := by show 0 + (i : Int).toNat * 11 + 10 + 1 ≤ cs.length; rw [hLR.len, show (mixL i).length = 12 from by simp [mixL, show shownL.length = 12 from rfl, show fiveL.length = 12 from rfl]; omega]; omega) ?_
     refine JL.releaseC (A := 500001) (t := 18) (cs.take (0 + (i : Int).toNat * 11 + 10)) (cs.drop (0 + (i : Int).toNat * 11 + 10 + 1)) [(1, _), (2, _)] [] ?_ (hcs := by exact put1 _ _ _ hlt) (hp := by exact ivs_pl [7])
     intro g2 hpl hNw
     refine JL.flatU (u := 500001) [] ?_ (hp := fun v hv => ?_)
     rotate_left
     · rcases List.mem_append.1 hv with h | h
       · exact hLR.pl v (List.mem_of_mem_take h)
       · rcases List.mem_cons.1 h with rfl | h
         · rfl
         · exact hLR.pl v (List.mem_of_mem_drop h)
     refine nl ?_
     refine bk ?_
     refine rg ?_
     refine st (h := O) ?_
     refine st (h := sdA) ?_
     refine st (h := O) ?_
     refine nl ?_
     refine gbk2 (_) (i + 1) (_) (by exact ⟨rfl, trivial⟩) (by exact ⟨rfl, trivial⟩) (by exact ⟨rfl, rfl, trivial⟩) (by exact add_add _ _ _) ?_ ?_ ?_
     · exact PlainRows.app hY hpl
     · omega
     · refine ⟨by omega, ?_⟩
       rw [hm1, hm3 c1]
       rw [Nat.zero_add]
       refine put_LR (j := 10) (v := .slice (some ⟨g2, 0, none⟩) 1 1) (x' := { at_ fiveL i with glyphs := [7] }) hLR hm2 (by decide) rfl (fun c hc G hG => ?_)
       · obtain ⟨g3, rfl, _⟩ := hc _ hG.app_right
         exact ⟨_, rfl, Rd.ivsW hG List.mem_cons_self rfl rfl (show (1 : Nat) ≤ 9223372036854775807 from by decide)⟩
    ·refine sk ?_
     refine bk ?_
     refine rg ?_
     refine st (h := O) ?_
     refine st (h := sdA) ?_
     refine st (h := O) ?_
     refine nl ?_
     refine gbk2 (Y) (i + 1) (cs) (by exact ⟨rfl, trivial⟩) (by exact ⟨rfl, trivial⟩) (by exact ⟨rfl, rfl, trivial⟩) (by first | rfl | exact add_add _ _ _) ?_ ?_ ?_
     · assumption
     · omega
     · refine ⟨by omega, ?_⟩
       rw [hm4 c1]
       exact hLR
   ·obtain rfl : i = 12 := by omega
    refine ex ?_
    refine sq ?_
    refine rg ?_
    iterate 2 (refine st (h := O) ?_)
    refine nl ?_
    refine J.weak (L0 := [(0, _)]) (K0 := [(500001, _)]) (by exact ⟨rfl, trivial⟩) (by exact ⟨rfl, rfl, trivial⟩) ?_
    refine rtY (v := .slice (some ⟨500001, 0, some 0⟩) 12 c) hY fun ι hV => ⟨⟨ι 500001, 12, c, rfl, hc1⟩, fun G hG => ?_⟩
    refine items_LR (c := c) hLR (fun x hx => hG x (List.mem_append_right _ hx)) (fun o u hu => ?_) rfl (by decide)
    refine hG (ι 500001, Row.r ι { elem := 49, cs := cs, room := c * 11, fz := false, flat := true }) List.mem_cons_self o u ?_
    show (List.map (r1 ι) cs)[o]? = some u
    rw [map_r1_pl ι hLR.pl]
    exact hu
end Go.Proofs.Ytnkddjdmpnghmaa.Am
namespace Go.Proofs.Ytnkddjdmpnghmaa.Am
set_option linter.unusedSimpArgs false
set_option linter.unusedVariables false
set_option maxRecDepth 100000
set_option maxHeartbeats 4000000
open Go Go.RowKit
theorem set_wakes : (setD shownL [3, 7, 11] 26 0).2 = 0 ∧ (setD shownL [3, 7, 11] 26 0).1.length = 3 ∧ ((setD shownL [3, 7, 11] 26 0).1[0]?).map (fun x => (x.width, x.pieces.length, (x.pieces[1]?).map Pc.x)) = some (26, 2, some 16) := by decide +kernel
theorem glu_wakes : gluT shownL (-1) 3 20 0 = ([3], true) := by decide +kernel
theorem ints_RIx {F : Mem} {a : Option Addr} {xs : List Int} {n c : Nat} (h : RIx F a xs) (hp : 0 < xs.length) (hn : n = xs.length) : RInts F (.slice a n c) xs := by
  subst hn
  obtain ⟨b, o, rfl, hr⟩ := h.rd hp
  exact .inl ⟨b, o, c, rfl, h.h63, hr⟩
theorem wakes25_C (F : Mem) : C0 Try.prog 10 [] F (.bool true) := by
  obtain ⟨hw1, hw2, hw3⟩ := set_wakes
  generalize hsd : setD shownL [3, 7, 11] 26 0 = sd at hw1 hw2 hw3
  have hgS : ∀ x ∈ shownL, x.glyphs.length * 8 ≤ 140737488355328 := by decide
  refine C.go hT Try.func10 Try.ntmps10 ?_
  refine sq ?_
  refine rg ?_
  refine st (h := O) ?_
  refine nl ?_
  refine sq ?_
  refine rg ?_
  refine clC (h := by exact fun ι hV hl => shown_C _) ?_
  intro u1 Y1 hQ1 hv1 hp1 hN1
  obtain ⟨⟨sb, sn, sc, rfl, hsc⟩, hS1⟩ := hQ1
  have hS1' := hS1 _ hN1.rows
  refine sl ?_
  refine clC (h := by exact fun ι hV hl => hsd ▸ Set_C _ _ _ _ shownL [3, 7, 11] 26 0 (hS1'.le hl) (hV.intsX (t := 7) rfl rfl (by decide)) (fun a n c e => by cases e; exact hsc) hgS (by decide)) ?_
  intro u2 Y2 hQ2 hv2 hp2 hN2
  obtain ⟨lv, rfl, hlv, hR2⟩ := hQ2
  have hL2 := hR2 _ hN2.rows
  rcases hL2 with ⟨lb, lo, lc, rfl, _, _, hLr⟩ | ⟨_, hnil⟩
  rotate_left
  · rw [hnil] at hw2
    cases hw2
  obtain ⟨x0, hx0⟩ : ∃ x0, sd.1[0]? = some x0 := ⟨_, List.getElem?_eq_getElem (by omega)⟩
  rw [hx0] at hw3
  simp only [Option.map_some, Option.some.injEq, Prod.mk.injEq] at hw3
  obtain ⟨hxw, hxn, hxp⟩ := hw3
  obtain ⟨cs0, hc0, pv, rfl, hpv⟩ := hLr 0 x0 hx0
  rcases hpv with ⟨pb, po, pc, rfl, _, _, hPr⟩ | ⟨_, hnil⟩
  rotate_left
  · rw [hnil] at hxn
    cases hxn
  obtain ⟨p1, hp1'⟩ : ∃ p1, x0.pieces[1]? = some p1 := ⟨_, List.getElem?_eq_getElem (by omega)⟩
  rw [hp1'] at hxp
  simp only [Option.map_some, Option.some.injEq] at hxp
  obtain ⟨cs1, hc1, pg, rfl, _⟩ := hPr 1 p1 hp1'
  rw [hxn] at hc0
  rw [hw1, hw2] at hv2
  rw [hw1, hw2]
  have k2 := lookN_at hc0 2 (v := .slice (some ⟨pb, po, none⟩) 2 pc) rfl
  have k0 := lookN_at hc0 0 (v := .int .i64 26) (by rw [← hxw]; rfl)
  have k1 := lookN_at hc1 0 (v := .int .i64 16) (by rw [← hxp]; rfl)
  iterate 5 (refine st (h := O) ?_)
  refine nl ?_
  refine sq ?_
  refine rg ?_
  refine clC (h := by exact fun ι hV hl => shown_C _) ?_
  intro u3 Y3 hQ3 hv3 hp3 hN3
  obtain ⟨⟨tb, tn, tc, rfl, htc⟩, hS3⟩ := hQ3
  have hS3' := hS3 _ hN3.rows
  refine clC (h := by exact fun ι hV hl => glu_wakes ▸ Glue_C _ _ shownL (-1) 3 20 0 (hS3'.le hl) (fun a n c e => by cases e; exact htc)) ?_
  intro u4 Y4 hQ4 hv4 hp4 hN4
  obtain ⟨ga, gc, rfl, hR4⟩ := hQ4
  have hx4 := hR4 _ hN4.rows
  obtain ⟨gb, go, rfl, hgr⟩ := hx4.rd (by decide)
  have k2 := hN4.le _ _ (hN3.le _ _ k2)
  have k0 := hN4.le _ _ (hN3.le _ _ k0)
  have k1 := hN4.le _ _ (hN3.le _ _ k1)
  simp only [addA] at k0 k1 k2
  iterate 5 (refine st (h := O) ?_)
  refine nl ?_
  refine sq ?_
  refine rg ?_
  iterate 3 (refine st (h := O) ?_)
  refine gD (fun g18 => ?_) (fun g18 => ?_)
  ·refine sg (h := O) ?_
   iterate 2 (refine sg (h := O) ?_)
   iterate 2 (refine st (h := O) ?_)
   refine gD (fun g23 => ?_) (fun g23 => ?_)
   ·refine sg (h := O) ?_
    refine sg (h := (sdX (z := 3))) ?_
    refine sg (h := sdFA) ?_
    refine sg (h := sdL) ?_
    iterate 2 (refine sg (h := O) ?_)
    iterate 2 (refine st (h := O) ?_)
    refine gD (fun g31 => ?_) (fun g31 => ?_)
    ·refine sg (h := O) ?_
     refine sg (h := (sdX (z := 3))) ?_
     refine sg (h := sdFA) ?_
     refine sg (h := sdL) ?_
     refine sg (h := (sdX (z := 7))) ?_
     refine sg (h := sdFA) ?_
     refine sg (h := (by first | exact sdLG | exact sdW)) ?_
     refine sg (h := O) ?_
     iterate 2 (refine st (h := O) ?_)
     refine gD (fun g41 => ?_) (fun g41 => ?_)
     ·refine sg (h := O) ?_
      refine sg (h := (sdX (z := 3))) ?_
      refine sg (h := sdFA) ?_
      refine sg (h := (by first | exact sdLG | exact sdW)) ?_
      refine sg (h := O) ?_
      iterate 2 (refine st (h := O) ?_)
      refine gD (fun g48 => ?_) (fun g48 => ?_)
      ·refine sg (h := O) ?_
       iterate 2 (refine st (h := O) ?_)
       refine gB (fun g51 => ?_) (fun g51 => ?_)
       ·refine sg (h := O) ?_
        refine slg ?_
        refine clg (h := by exact fun ι hV hl => Same_C _ _ _ [3] [3] ((ints_RIx hx4 (by decide) rfl).le hl) (hV.ints (t := 53) rfl rfl rfl (by decide))) ?_
        iterate 2 (refine st (h := O) ?_)
        refine nl ?_
        repeat refine J.dropF ?_
        first
          | exact rt ⟨rfl, rfl⟩
          | (exfalso; simp at *; done)
       ·refine sp ?_
        iterate 2 (refine sp ?_)
        iterate 2 (refine st (h := O) ?_)
        refine nl ?_
        repeat refine J.dropF ?_
        first
          | exact rt ⟨rfl, rfl⟩
          | (exfalso; simp at *; done)
      ·refine sp ?_
       iterate 2 (refine st (h := O) ?_)
       iterate 3 (refine sp ?_)
       iterate 2 (refine st (h := O) ?_)
       refine nl ?_
       repeat refine J.dropF ?_
       first
         | exact rt ⟨rfl, rfl⟩
         | (exfalso; simp at *; done)
     ·refine sp ?_
      iterate 4 (refine sp ?_)
      iterate 2 (refine st (h := O) ?_)
      refine sp ?_
      iterate 2 (refine st (h := O) ?_)
      iterate 3 (refine sp ?_)
      iterate 2 (refine st (h := O) ?_)
      refine nl ?_
      repeat refine J.dropF ?_
      first
        | exact rt ⟨rfl, rfl⟩
        | (exfalso; simp at *; done)
    ·refine sp ?_
     iterate 7 (refine sp ?_)
     iterate 2 (refine st (h := O) ?_)
     iterate 5 (refine sp ?_)
     iterate 2 (refine st (h := O) ?_)
     refine sp ?_
     iterate 2 (refine st (h := O) ?_)
     iterate 3 (refine sp ?_)
     iterate 2 (refine st (h := O) ?_)
     refine nl ?_
     repeat refine J.dropF ?_
     first
       | exact rt ⟨rfl, rfl⟩
       | (exfalso; simp at *; done)
   ·refine sp ?_
    iterate 5 (refine sp ?_)
    iterate 2 (refine st (h := O) ?_)
    iterate 8 (refine sp ?_)
    iterate 2 (refine st (h := O) ?_)
    iterate 5 (refine sp ?_)
    iterate 2 (refine st (h := O) ?_)
    refine sp ?_
    iterate 2 (refine st (h := O) ?_)
    iterate 3 (refine sp ?_)
    iterate 2 (refine st (h := O) ?_)
    refine nl ?_
    repeat refine J.dropF ?_
    first
      | exact rt ⟨rfl, rfl⟩
      | (exfalso; simp at *; done)
  ·refine sp ?_
   iterate 2 (refine sp ?_)
   iterate 2 (refine st (h := O) ?_)
   iterate 6 (refine sp ?_)
   iterate 2 (refine st (h := O) ?_)
   iterate 8 (refine sp ?_)
   iterate 2 (refine st (h := O) ?_)
   iterate 5 (refine sp ?_)
   iterate 2 (refine st (h := O) ?_)
   refine sp ?_
   iterate 2 (refine st (h := O) ?_)
   iterate 3 (refine sp ?_)
   iterate 2 (refine st (h := O) ?_)
   refine nl ?_
   repeat refine J.dropF ?_
   first
     | exact rt ⟨rfl, rfl⟩
     | (exfalso; simp at *; done)
end Go.Proofs.Ytnkddjdmpnghmaa.Am
namespace Go.Proofs.Ytnkddjdmpnghmaa.Am
set_option linter.unusedSimpArgs false
set_option linter.unusedVariables false
set_option maxRecDepth 100000
set_option maxHeartbeats 4000000
open Go Go.RowKit
theorem CopyC_C (F : Mem) (v : Value) (l : List Item) (hv : RItems F v l) (hl3 : l.length ≤ 3000) (hgl : ∀ x ∈ l, x.glyphs.length * 8 ≤ 140737488355328) : C Try.prog 11 [v] F (fun u Y => SlV u ∧ (∀ a n c, u = .slice (some a) n c → n ≤ c) ∧ ∀ G, Rd G Y → RItems G u l) := by
  rcases hv.cases with ⟨vb, vo, vc, rfl, _, hr⟩ | ⟨rfl, rfl⟩
  ·
    refine C.go hT Try.func11 Try.ntmps11 ?_
    refine sq ?_
    refine rg ?_
    refine st (h := O) ?_
    refine nl ?_
    refine sq ?_
    refine rg ?_
    refine st (h := O) ?_
    refine nl ?_
    iterate 2 (refine sq ?_)
    refine rg ?_
    refine st (h := O) ?_
    refine nl ?_
    refine bl ?_
    refine J.gloop4 (α := Option Nat) (β := Nat) (γ := Nat) (δ := List Value) (fun Y o m k cs => k ≤ l.length ∧ m = k ∧ apB o m ∧ cs.length = m * 11 ∧ ∃ gs, gs.length = k ∧ cs = (cellsG l gs).flatten ∧ CpR l Y gs) (fun o m k cs => [(3, apV 24 o m), (4, .int .i64 k)]) [(0, _)] (fun o m k cs => apR 24 49 11 true o cs ++ []) [] (fun o m k cs => l.length - k) (none) (0) (0) ([]) (by exact ⟨rfl, rfl, trivial⟩) (by exact ⟨rfl, trivial⟩) (by exact (by repeat' first | exact trivial | refine And.intro rfl ?_)) ?_ ?_
    · exact ⟨by omega, rfl, rfl, rfl, [], rfl, rfl, fun i g h => by simp at h⟩
    ·intro Y o m k cs L1 K1 e1 e2 hI hY hN
     rcases o with _ | cap_o
     all_goals
      dsimp only [apV, apR, List.cons_append, List.nil_append] at e1 e2
      subst e1 e2
      obtain ⟨hk, hmk, hap, hcl, gs, hgs, hcs, hcp⟩ := hI
      simp only [apB] at hap
      try (obtain rfl : m = 0 := hap; obtain rfl : cs = [] := List.eq_nil_of_length_eq_zero (by omega))
      iterate 2 (refine sq ?_)
      refine rg ?_
      iterate 4 (refine st (h := O) ?_)
      refine nl ?_
      refine cD (fun c0 => ?_) (fun c0 => ?_)
      ·have hkl : k < l.length := by omega
       obtain ⟨r0, r1, r2, r3, r4, r5, g, hg2, hri⟩ := hr k hkl
       have hN2 : ∀ K, rdN (F.add Y) K ⟨vb, vo + (k : Int).toNat * 11, none⟩ 11 = some ((at_ l k).cells g) := fun K => by
         obtain ⟨_, hh⟩ := lookN_spec hg2
         exact lookN_of (F := F.add Y) (cs := (at_ l k).cells g) (fun j u hu => hN.le _ _ (hh j u hu))
       have hgb := hgl _ (List.mem_of_getElem? (at_get hkl))
       generalize hx : at_ l k = x at *
       rcases hri with (⟨gb, go, gc, rfl, hg63, hgr⟩ | ⟨rfl, hge⟩) | ⟨gb, go, gsp, rfl, hge⟩
       rcases Nat.eq_zero_or_pos x.glyphs.length with hz | hz
       · have hz0 : x.glyphs = [] := List.eq_nil_of_length_eq_zero hz
         rw [hz] at hg2 hN2
         refine sk ?_
         refine sq ?_
         refine bl ?_
         refine sq ?_
         refine rg ?_
         iterate 2 (refine st (h := O) ?_)
         refine st (h := (sdX (z := 11))) ?_
         refine st (h := sdLN (hv := hN2 _)) ?_
         refine al ?_
         refine so ?_
         refine nl ?_
         refine sq ?_
         refine rg ?_
         refine sl ?_
         refine st (h := sdFA) ?_
         refine st (h := sdL) ?_
         first
           | (refine ap0 ?_)
           | (refine apO (m := x.glyphs.length) (news := ivs x.glyphs) 1019 16 [(0, _), (3, _), (4, _), (5, _)] [(5, _), (24, _)] ?_ (happ := App.slice (hap2 _) hone (by simp [ivs])) (hnn := hntt _) (hru := by simp only [List.nil_append, Bool.or_eq_true]; exact .inr (hntt _)) (hflat := fun h => by cases h); intro cap19 hc19 hd19)
           | (refine apO (m := x.glyphs.length) (news := ivs x.glyphs) 1019 16 [(0, _), (3, _), (4, _), (5, _)] [(5, _)] ?_ (happ := App.slice (hap2 _) hone (by simp [ivs])) (hnn := hntt _) (hru := by simp only [List.nil_append, Bool.or_eq_true]; exact .inr (hntt _)) (hflat := fun h => by cases h); intro cap19 hc19 hd19)
         first
           | refine JL.release (d := 19) (t := 16) [(0, _), (3, _), (4, _), (5, _)] [(5, _), (24, _)] ?_ (hfl := by first | rfl | exact hpla)
           | refine JL.release (d := 19) (t := 16) [(0, _), (3, _), (4, _), (5, _)] [(5, _)] ?_ (hfl := by first | rfl | exact hpla)
         intro g2 hpl hNw
         refine st (h := sdFA) ?_
         refine so ?_
         refine nl ?_
         refine rg ?_
         refine st (h := O) ?_
         refine st (h := sdLN) ?_
         refine sl ?_
         first | refine apN (news := [_, _, _, _, _, _, _, _, _, _, _]) 24 true [(0, _), (4, _)] [(5, _)] ?_ | refine apO (news := [_, _, _, _, _, _, _, _, _, _, _]) 1024 24 [(0, _), (4, _)] [(5, _)] ?_
         intro cap24 hc24 hd24
         refine st (h := O) ?_
         refine nl ?_
         refine bk ?_
         refine rg ?_
         refine st (h := O) ?_
         refine st (h := sdA) ?_
         refine st (h := O) ?_
         refine nl ?_
         refine gbk4 (_) (some _) (_) (k + 1) (_) (by exact ⟨rfl, rfl, trivial⟩) (by exact ⟨rfl, trivial⟩) (by exact (by repeat' first | exact trivial | refine And.intro rfl ?_)) (by exact add_add _ _ _) ?_ ?_ ?_
         · exact hY.app hpl
         · omega
         · refine ⟨by omega, by omega, ⟨by omega, by omega⟩, by first | (simp only [List.length_append, hcl, List.length_cons, List.length_nil]; omega) | rfl, CpR.step hgs hcs hcp hkl hx rfl rfl fun G hG => ?_⟩
           first
             | (rw [hz0]; exact .inl ⟨g2, 0, _, rfl, by simp, fun i y h => by simp at h⟩)
             | (rw [hge]; exact .inl ⟨g2, 0, _, rfl, by simp, fun i y h => by simp at h⟩)
             | exact Rd.ivsW hG List.mem_cons_self rfl (by omega) hg63
       · have hap2 : ∀ K, rdN (F.add Y) K ⟨gb, go, none⟩ (x.glyphs.length * 1) = some (ivs x.glyphs) := fun K => by
           rw [Nat.mul_one]
           exact lookN_ints (fun i y hy => hN.le _ _ (hgr i y hy))
         have hone : ∀ v ∈ ivs x.glyphs, v.oneCell' = true := fun v hv => by obtain ⟨y, _, rfl⟩ := List.mem_map.1 hv; rfl
         have hpla : (ivs x.glyphs).all plain1 = true := List.all_eq_true.2 fun v hv => by obtain ⟨y, _, rfl⟩ := List.mem_map.1 hv; rfl
         have hntt : ∀ t, (ivs x.glyphs).all (nt1 t) = true := fun t => List.all_eq_true.2 fun v hv => by obtain ⟨y, _, rfl⟩ := List.mem_map.1 hv; rfl
         refine sk ?_
         refine sq ?_
         refine bl ?_
         refine sq ?_
         refine rg ?_
         iterate 2 (refine st (h := O) ?_)
         refine st (h := (sdX (z := 11))) ?_
         refine st (h := sdLN (hv := hN2 _)) ?_
         refine al ?_
         refine so ?_
         refine nl ?_
         refine sq ?_
         refine rg ?_
         refine sl ?_
         refine st (h := sdFA) ?_
         refine st (h := sdL) ?_
         first
           | (refine ap0 ?_)
           | (refine apO (m := x.glyphs.length) (news := ivs x.glyphs) 1019 16 [(0, _), (3, _), (4, _), (5, _)] [(5, _), (24, _)] ?_ (happ := App.slice (hap2 _) hone (by simp [ivs])) (hnn := hntt _) (hru := by simp only [List.nil_append, Bool.or_eq_true]; exact .inr (hntt _)) (hflat := fun h => by cases h); intro cap19 hc19 hd19)
           | (refine apO (m := x.glyphs.length) (news := ivs x.glyphs) 1019 16 [(0, _), (3, _), (4, _), (5, _)] [(5, _)] ?_ (happ := App.slice (hap2 _) hone (by simp [ivs])) (hnn := hntt _) (hru := by simp only [List.nil_append, Bool.or_eq_true]; exact .inr (hntt _)) (hflat := fun h => by cases h); intro cap19 hc19 hd19)
         first
           | refine JL.release (d := 19) (t := 16) [(0, _), (3, _), (4, _), (5, _)] [(5, _), (24, _)] ?_ (hfl := by first | rfl | exact hpla)
           | refine JL.release (d := 19) (t := 16) [(0, _), (3, _), (4, _), (5, _)] [(5, _)] ?_ (hfl := by first | rfl | exact hpla)
         intro g2 hpl hNw
         refine st (h := sdFA) ?_
         refine so ?_
         refine nl ?_
         refine rg ?_
         refine st (h := O) ?_
         refine st (h := sdLN) ?_
         refine sl ?_
         first | refine apN (news := [_, _, _, _, _, _, _, _, _, _, _]) 24 true [(0, _), (4, _)] [(5, _)] ?_ | refine apO (news := [_, _, _, _, _, _, _, _, _, _, _]) 1024 24 [(0, _), (4, _)] [(5, _)] ?_
         intro cap24 hc24 hd24
         refine st (h := O) ?_
         refine nl ?_
         refine bk ?_
         refine rg ?_
         refine st (h := O) ?_
         refine st (h := sdA) ?_
         refine st (h := O) ?_
         refine nl ?_
         refine gbk4 (_) (some _) (_) (k + 1) (_) (by exact ⟨rfl, rfl, trivial⟩) (by exact ⟨rfl, trivial⟩) (by exact (by repeat' first | exact trivial | refine And.intro rfl ?_)) (by exact add_add _ _ _) ?_ ?_ ?_
         · exact hY.app hpl
         · omega
         · refine ⟨by omega, by omega, ⟨by omega, by omega⟩, by first | (simp only [List.length_append, hcl, List.length_cons, List.length_nil]; omega) | rfl, CpR.step hgs hcs hcp hkl hx rfl rfl fun G hG => ?_⟩
           first
             | (rw [hz0]; exact .inl ⟨g2, 0, _, rfl, by simp, fun i y h => by simp at h⟩)
             | (rw [hge]; exact .inl ⟨g2, 0, _, rfl, by simp, fun i y h => by simp at h⟩)
             | exact Rd.ivsW hG List.mem_cons_self rfl (by omega) hg63
       ·
        refine sk ?_
        refine sq ?_
        refine bl ?_
        refine sq ?_
        refine rg ?_
        iterate 2 (refine st (h := O) ?_)
        refine st (h := (sdX (z := 11))) ?_
        refine st (h := sdLN (hv := hN2 _)) ?_
        refine al ?_
        refine so ?_
        refine nl ?_
        refine sq ?_
        refine rg ?_
        refine sl ?_
        refine st (h := sdFA) ?_
        refine st (h := sdL) ?_
        first
          | (refine ap0 ?_)
          | (refine apO (m := x.glyphs.length) (news := ivs x.glyphs) 1019 16 [(0, _), (3, _), (4, _), (5, _)] [(5, _), (24, _)] ?_ (happ := App.slice (hap2 _) hone (by simp [ivs])) (hnn := hntt _) (hru := by simp only [List.nil_append, Bool.or_eq_true]; exact .inr (hntt _)) (hflat := fun h => by cases h); intro cap19 hc19 hd19)
          | (refine apO (m := x.glyphs.length) (news := ivs x.glyphs) 1019 16 [(0, _), (3, _), (4, _), (5, _)] [(5, _)] ?_ (happ := App.slice (hap2 _) hone (by simp [ivs])) (hnn := hntt _) (hru := by simp only [List.nil_append, Bool.or_eq_true]; exact .inr (hntt _)) (hflat := fun h => by cases h); intro cap19 hc19 hd19)
        first
          | refine JL.release (d := 19) (t := 16) [(0, _), (3, _), (4, _), (5, _)] [(5, _), (24, _)] ?_ (hfl := by first | rfl | exact hpla)
          | refine JL.release (d := 19) (t := 16) [(0, _), (3, _), (4, _), (5, _)] [(5, _)] ?_ (hfl := by first | rfl | exact hpla)
        intro g2 hpl hNw
        refine st (h := sdFA) ?_
        refine so ?_
        refine nl ?_
        refine rg ?_
        refine st (h := O) ?_
        refine st (h := sdLN) ?_
        refine sl ?_
        first | refine apN (news := [_, _, _, _, _, _, _, _, _, _, _]) 24 true [(0, _), (4, _)] [(5, _)] ?_ | refine apO (news := [_, _, _, _, _, _, _, _, _, _, _]) 1024 24 [(0, _), (4, _)] [(5, _)] ?_
        intro cap24 hc24 hd24
        refine st (h := O) ?_
        refine nl ?_
        refine bk ?_
        refine rg ?_
        refine st (h := O) ?_
        refine st (h := sdA) ?_
        refine st (h := O) ?_
        refine nl ?_
        refine gbk4 (_) (some _) (_) (k + 1) (_) (by exact ⟨rfl, rfl, trivial⟩) (by exact ⟨rfl, trivial⟩) (by exact (by repeat' first | exact trivial | refine And.intro rfl ?_)) (by exact add_add _ _ _) ?_ ?_ ?_
        · exact hY.app hpl
        · omega
        · refine ⟨by omega, by omega, ⟨by omega, by omega⟩, by first | (simp only [List.length_append, hcl, List.length_cons, List.length_nil]; omega) | rfl, CpR.step hgs hcs hcp hkl hx rfl rfl fun G hG => ?_⟩
          first
            | (rw [hz0]; exact .inl ⟨g2, 0, _, rfl, by simp, fun i y h => by simp at h⟩)
            | (rw [hge]; exact .inl ⟨g2, 0, _, rfl, by simp, fun i y h => by simp at h⟩)
            | exact Rd.ivsW hG List.mem_cons_self rfl (by omega) hg63
       ·
        refine sk ?_
        refine sq ?_
        refine bl ?_
        refine sq ?_
        refine rg ?_
        iterate 2 (refine st (h := O) ?_)
        refine st (h := (sdX (z := 11))) ?_
        refine st (h := sdLN (hv := hN2 _)) ?_
        refine al ?_
        refine so ?_
        refine nl ?_
        refine sq ?_
        refine rg ?_
        refine sl ?_
        refine st (h := sdFA) ?_
        refine st (h := sdL) ?_
        first
          | (refine ap0 ?_)
          | (refine apO (m := x.glyphs.length) (news := ivs x.glyphs) 1019 16 [(0, _), (3, _), (4, _), (5, _)] [(5, _), (24, _)] ?_ (happ := App.slice (hap2 _) hone (by simp [ivs])) (hnn := hntt _) (hru := by simp only [List.nil_append, Bool.or_eq_true]; exact .inr (hntt _)) (hflat := fun h => by cases h); intro cap19 hc19 hd19)
          | (refine apO (m := x.glyphs.length) (news := ivs x.glyphs) 1019 16 [(0, _), (3, _), (4, _), (5, _)] [(5, _)] ?_ (happ := App.slice (hap2 _) hone (by simp [ivs])) (hnn := hntt _) (hru := by simp only [List.nil_append, Bool.or_eq_true]; exact .inr (hntt _)) (hflat := fun h => by cases h); intro cap19 hc19 hd19)
        first
          | refine JL.release (d := 19) (t := 16) [(0, _), (3, _), (4, _), (5, _)] [(5, _), (24, _)] ?_ (hfl := by first | rfl | exact hpla)
          | refine JL.release (d := 19) (t := 16) [(0, _), (3, _), (4, _), (5, _)] [(5, _)] ?_ (hfl := by first | rfl | exact hpla)
        intro g2 hpl hNw
        refine st (h := sdFA) ?_
        refine so ?_
        refine nl ?_
        refine rg ?_
        refine st (h := O) ?_
        refine st (h := sdLN) ?_
        refine sl ?_
        first | refine apN (news := [_, _, _, _, _, _, _, _, _, _, _]) 24 true [(0, _), (4, _)] [(5, _)] ?_ | refine apO (news := [_, _, _, _, _, _, _, _, _, _, _]) 1024 24 [(0, _), (4, _)] [(5, _)] ?_
        intro cap24 hc24 hd24
        refine st (h := O) ?_
        refine nl ?_
        refine bk ?_
        refine rg ?_
        refine st (h := O) ?_
        refine st (h := sdA) ?_
        refine st (h := O) ?_
        refine nl ?_
        refine gbk4 (_) (some _) (_) (k + 1) (_) (by exact ⟨rfl, rfl, trivial⟩) (by exact ⟨rfl, trivial⟩) (by exact (by repeat' first | exact trivial | refine And.intro rfl ?_)) (by exact add_add _ _ _) ?_ ?_ ?_
        · exact hY.app hpl
        · omega
        · refine ⟨by omega, by omega, ⟨by omega, by omega⟩, by first | (simp only [List.length_append, hcl, List.length_cons, List.length_nil]; omega) | rfl, CpR.step hgs hcs hcp hkl hx rfl rfl fun G hG => ?_⟩
          first
            | (rw [hz0]; exact .inl ⟨g2, 0, _, rfl, by simp, fun i y h => by simp at h⟩)
            | (rw [hge]; exact .inl ⟨g2, 0, _, rfl, by simp, fun i y h => by simp at h⟩)
            | exact Rd.ivsW hG List.mem_cons_self rfl (by omega) hg63
      ·obtain rfl : k = l.length := by omega
       refine ex ?_
       refine sq ?_
       refine rg ?_
       iterate 2 (refine st (h := O) ?_)
       refine nl ?_
       refine rtY hY fun ι hV => ⟨?_, ?_, fun G hG => ?_⟩
       · first | exact .inr ⟨0, 0, rfl⟩ | exact .inl ⟨_, _, _, _, rfl⟩
       · intro a n c e
         cases e
         all_goals omega
       · first
           | (exfalso; omega)
           | exact .inr ⟨rfl, List.eq_nil_of_length_eq_zero (by omega)⟩
           | (rw [show m = l.length from hmk]; exact Copied (r := Row.r ι { elem := 49, cs := cs, room := cap_o * 11, fz := false, flat := true }) hcp (by omega) (by show cs.map (r1 ι) = _; rw [cs_c hcp hcs ι]; exact hcs) (fun x hx => hG x (by simpa using hx)) (by omega))
  ·
    refine C.go hT Try.func11 Try.ntmps11 ?_
    refine sq ?_
    refine rg ?_
    refine st (h := O) ?_
    refine nl ?_
    refine sq ?_
    refine rg ?_
    refine st (h := O) ?_
    refine nl ?_
    iterate 2 (refine sq ?_)
    refine rg ?_
    refine st (h := O) ?_
    refine nl ?_
    refine bl ?_
    refine J.loop1 (α := Nat) (fun k => k = 0) (fun k => [(3, .slice none 0 0), (4, .int .i64 k)]) [(0, _)] (fun k => []) [] (fun k => 0) (0) (by exact ⟨rfl, rfl, trivial⟩) (by exact ⟨rfl, trivial⟩) (by exact trivial) ?_ ?_
    · rfl
    ·intro k L1 K1 e1 e2 hI
     dsimp only [apV, apR, List.cons_append, List.nil_append] at e1 e2
     subst e1 e2
     subst hI
     iterate 2 (refine sq ?_)
     refine rg ?_
     iterate 4 (refine st (h := O) ?_)
     refine nl ?_
     refine cD (fun c0 => ?_) (fun c0 => ?_)
     ·exact absurd c0 (by decide)
     ·refine ex ?_
      refine sq ?_
      refine rg ?_
      iterate 2 (refine st (h := O) ?_)
      refine nl ?_
      exact rt ⟨.inr ⟨0, 0, rfl⟩, (fun a n c e => by cases e), fun G _ => .inr ⟨rfl, rfl⟩⟩
end Go.Proofs.Ytnkddjdmpnghmaa.Am
namespace Go.Proofs.Ytnkddjdmpnghmaa.Am
set_option linter.unusedSimpArgs false
set_option linter.unusedVariables false
set_option maxRecDepth 100000
set_option maxHeartbeats 4000000
open Go Go.RowKit
/-- items in a struct's cell: of none, the address may be any -/
def RItN (F : Mem) (v : Value) (l : List Item) : Prop := RItems F v l ∨ ∃ b o s, v = .slice (some ⟨b, o, some (s + 1)⟩) 0 0 ∧ l = []
theorem RItN.le {F F' : Mem} {v : Value} {l : List Item} (h : RItN F v l) (hl : F.le F') : RItN F' v l := h.imp (·.le hl) id
theorem RItN.opl {F : Mem} {v : Value} {l : List Item} (h : RItN F v l) : ∃ a c, PlA a ∧ v = .slice a l.length c := by
  rcases h with h | ⟨b, o, s, rfl, rfl⟩
  · exact h.opl
  · exact ⟨_, 0, .inr (.inr ⟨b, o, s, rfl⟩), rfl⟩
/-- what the statements are asked of -/
structure Ask where
  l : List Item
  ats : List Int
  w : Int
  ag : Int
def Ask.v (x : Ask) (la : Option Addr) (lc : Nat) (aa : Option Addr) (ac : Nat) : Value := .agg ⟨[.slice la x.l.length lc, .slice aa x.ats.length ac, .int .i64 x.w, .int .i64 x.ag]⟩
def bigQ (x : Ask) : Bool := decide (120 < x.l.length ∨ 240 < x.ats.length)
theorem Ask.pl (x : Ask) {la aa : Option Addr} (h1 : PlA la) (h2 : PlA aa) (lc ac : Nat) : ∀ v ∈ ([.slice la x.l.length lc, .slice aa x.ats.length ac, .int .i64 x.w, .int .i64 x.ag] : List Value), plain1 v = true := by
  intro v hv
  simp only [List.mem_cons, List.not_mem_nil, or_false] at hv
  rcases hv with rfl | rfl | rfl | rfl
  · exact h1.pl _ _
  · exact h2.pl _ _
  · rfl
  · rfl
theorem Ask.rV (x : Ask) {la aa : Option Addr} (h1 : PlA la) (h2 : PlA aa) (lc ac : Nat) (ι : Nat → Nat) : rV ι (x.v la lc aa ac) = x.v la lc aa ac := by
  show Value.agg ⟨List.map (r1 ι) _⟩ = _
  rw [map_r1_pl ι (x.pl h1 h2 lc ac)]
  rfl
theorem large25_C (F : Mem) (x : Ask) {la aa : Option Addr} (h1 : PlA la) (h2 : PlA aa) (lc ac : Nat) : C0 Try.prog 9 [x.v la lc aa ac] F (.bool (bigQ x)) := by
  unfold Ask.v
  refine C.go hT Try.func9 Try.ntmps9 ?_
  refine sq ?_
  refine rg ?_
  refine bx (hL := by simp [ntL, ntV, nt2, argL, nt1_i, nt1_b, h1.nt, h2.nt]) ?_
  refine st (h := O) ?_
  refine nl ?_
  refine sq ?_
  refine rg ?_
  refine st (h := sdFA) ?_
  refine st (h := sdL) ?_
  iterate 3 (refine st (h := O) ?_)
  refine gD (fun g7 => ?_) (fun g7 => ?_)
  ·refine sp ?_
   iterate 3 (refine sp ?_)
   iterate 2 (refine st (h := O) ?_)
   refine nl ?_
   refine rt ⟨congrArg Value.bool ?_, rfl⟩
   unfold bigQ
   first
     | (rw [eq_comm, decide_eq_true_eq]; omega)
     | (rw [decide_eq_decide]; omega)
  ·refine sg (h := sdFA) ?_
   refine sg (h := sdL) ?_
   iterate 2 (refine sg (h := O) ?_)
   iterate 2 (refine st (h := O) ?_)
   refine nl ?_
   refine rt ⟨congrArg Value.bool ?_, rfl⟩
   unfold bigQ
   first
     | (rw [eq_comm, decide_eq_true_eq]; omega)
     | (rw [decide_eq_decide]; omega)
theorem CopyN_C (F : Mem) (v : Value) (l : List Item) (hv : RItN F v l) (hl3 : l.length ≤ 3000) (hgl : ∀ x ∈ l, x.glyphs.length * 8 ≤ 140737488355328) : C Try.prog 11 [v] F (fun u Y => SlV u ∧ (∀ a n c, u = .slice (some a) n c → n ≤ c) ∧ ∀ G, Rd G Y → RItems G u l) := by
  rcases hv with hv | ⟨b, o, s, rfl, rfl⟩
  · exact CopyC_C F v l hv hl3 hgl
  ·
    refine C.go hT Try.func11 Try.ntmps11 ?_
    refine sq ?_
    refine rg ?_
    refine st (h := O) ?_
    refine nl ?_
    refine sq ?_
    refine rg ?_
    refine st (h := O) ?_
    refine nl ?_
    iterate 2 (refine sq ?_)
    refine rg ?_
    refine st (h := O) ?_
    refine nl ?_
    refine bl ?_
    refine J.loop1 (α := Nat) (fun k => k = 0) (fun k => [(3, .slice none 0 0), (4, .int .i64 k)]) [(0, _)] (fun k => []) [] (fun k => 0) (0) (by exact ⟨rfl, rfl, trivial⟩) (by exact ⟨rfl, trivial⟩) (by exact trivial) ?_ ?_
    · rfl
    ·intro k L1 K1 e1 e2 hI
     dsimp only [apV, apR, List.cons_append, List.nil_append] at e1 e2
     subst e1 e2
     subst hI
     iterate 2 (refine sq ?_)
     refine rg ?_
     iterate 4 (refine st (h := O) ?_)
     refine nl ?_
     refine cD (fun c0 => ?_) (fun c0 => ?_)
     ·exact absurd c0 (by decide)
     ·refine ex ?_
      refine sq ?_
      refine rg ?_
      iterate 2 (refine st (h := O) ?_)
      refine nl ?_
      exact rt ⟨.inr ⟨0, 0, rfl⟩, (fun a n c e => by cases e), fun G _ => .inr ⟨rfl, rfl⟩⟩
theorem RGoodN_C (F : Mem) (v : Value) (l : List Item) (hv : RItN F v l) : C0 Try.prog 22 [v] F (.bool (goodL l)) := by
  rcases hv with hv | ⟨b, o, s, rfl, rfl⟩
  · exact RGood_C F v l hv
  ·
    refine C.go hT Try.func22 Try.ntmps22 ?_
    refine sq ?_
    refine rg ?_
    refine st (h := O) ?_
    refine nl ?_
    iterate 2 (refine sq ?_)
    refine rg ?_
    iterate 4 (refine st (h := O) ?_)
    refine gD (fun g8 => ?_) (fun g8 => ?_)
    ·refine sp ?_
     iterate 2 (refine sp ?_)
     iterate 2 (refine st (h := O) ?_)
     iterate 5 (refine sp ?_)
     iterate 2 (refine st (h := O) ?_)
     iterate 8 (refine sp ?_)
     iterate 2 (refine st (h := O) ?_)
     iterate 8 (refine sp ?_)
     refine st (h := O) ?_
     refine nl ?_
     refine cT ?_
     refine sq ?_
     refine rg ?_
     refine st (h := O) ?_
     refine nl ?_
     exact rt ⟨rfl, rfl⟩
    ·exact absurd (show ((0 : Nat) : Int) < 1 from by decide) g8
theorem SameN_C (F : Mem) (v u : Value) (l m : List Item) (hv : RItems F v l) (hu : RItN F u m) : C0 Try.prog 15 [v, u] F (.bool (decide (l = m))) := by
  rcases hu with hu | ⟨b, o, s, rfl, rfl⟩
  · exact SameItems_C F v u l m hv hu
  · obtain ⟨a, c, ha, rfl⟩ := hv.opl
    refine C.go hT Try.func15 Try.ntmps15 ?_
    refine sq ?_
    refine rg ?_
    refine st (h := O) ?_
    refine nl ?_
    iterate 2 (refine sq ?_)
    refine rg ?_
    iterate 5 (refine st (h := O) ?_)
    refine nl ?_
    refine cN (fun c0 => ?_) (fun c0 => ?_)
    ·refine sq ?_
     refine rg ?_
     refine st (h := O) ?_
     refine nl ?_
     refine rt ⟨?_, rfl⟩
     have : l ≠ [] := fun e => c0 (by rw [e]; rfl)
     simp [this]
    ·have hx : l = [] := List.eq_nil_of_length_eq_zero (by omega)
     subst hx
     refine sk ?_
     iterate 2 (refine sq ?_)
     refine rg ?_
     refine st (h := O) ?_
     refine nl ?_
     refine bl ?_
     refine J.loop1 (α := Nat) (fun k => k = 0) (fun k => [(5, .int .i64 k)]) [(0, _), (1, _)] (fun k => []) [] (fun k => 0) (0) (by exact ⟨rfl, trivial⟩) (by exact ⟨rfl, rfl, trivial⟩) (by exact trivial) ?_ ?_
     · rfl
     ·intro k L1 K1 e1 e2 hI
      dsimp only [apV, apR, List.cons_append, List.nil_append] at e1 e2
      subst e1 e2
      subst hI
      iterate 2 (refine sq ?_)
      refine rg ?_
      iterate 4 (refine st (h := O) ?_)
      refine nl ?_
      refine cD (fun c1 => ?_) (fun c1 => ?_)
      ·exact absurd c1 (by decide)
      ·refine ex ?_
       refine sq ?_
       refine rg ?_
       refine st (h := O) ?_
       refine nl ?_
       exact rt ⟨rfl, rfl⟩
theorem rSetN_C (F : Mem) (v : Value) (ab : Option Addr) (ac : Nat) (l : List Item) (ats : List Int) (width ag : Int) (hv : RItN F v l) (hax : RIx F ab ats) (hgl : ∀ x ∈ l, x.glyphs.length * 8 ≤ 140737488355328) (hal : ats.length ≤ 100000) : C Try.prog 13 [v, .slice ab ats.length ac, .int .i64 width, .int .i64 ag] F (RedSet (setD l ats width ag)) := by
  rcases hv with hv | ⟨b, o, s, rfl, rfl⟩
  · exact rSet_C F v ab ac l ats width ag hv hax hgl hal
  · have hx := hax.pl
    refine C.go hT Try.func13 Try.ntmps13 ?_
    refine sq ?_
    refine rg ?_
    iterate 2 (refine st (h := O) ?_)
    refine nl ?_
    iterate 2 (refine sq ?_)
    refine rg ?_
    refine st (h := O) ?_
    refine cl (h := by exact fun ι hV hl => RGoodN_C _ _ [] (.inr ⟨b, o, s, rfl, rfl⟩)) ?_
    refine st (h := O) ?_
    refine nl ?_
    refine cB (fun c0 => ?_) (fun c0 => ?_)
    ·refine sq ?_
     refine rg ?_
     iterate 2 (refine st (h := O) ?_)
     refine nl ?_
     exact rt ⟨_, rfl, rfl, fun G hG => RL.nil _⟩
    ·exact absurd c0 (by decide)
theorem rGlueN_C (F : Mem) (v : Value) (l : List Item) (a b width al : Int) (hv : RItN F v l) : C Try.prog 18 [v, .int .i64 a, .int .i64 b, .int .i64 width, .int .i64 al] F (RedGl (gluT l a b width al)) := by
  rcases hv with hv | ⟨p, o, s, rfl, rfl⟩
  · exact rGlue_C F v l a b width al hv
  ·
    refine C.go hT Try.func18 Try.ntmps18 ?_
    refine sq ?_
    refine rg ?_
    iterate 2 (refine st (h := O) ?_)
    refine nl ?_
    iterate 2 (refine sq ?_)
    refine rg ?_
    refine st (h := O) ?_
    refine cl (h := by exact fun ι hV hl => RGoodN_C _ _ [] (.inr ⟨p, o, s, rfl, rfl⟩)) ?_
    iterate 2 (refine st (h := O) ?_)
    refine gB (fun g15 => ?_) (fun g15 => ?_)
    ·refine sp ?_
     iterate 3 (refine sp ?_)
     iterate 2 (refine st (h := O) ?_)
     iterate 5 (refine sp ?_)
     refine st (h := O) ?_
     refine nl ?_
     refine cT ?_
     refine sq ?_
     refine rg ?_
     iterate 2 (refine st (h := O) ?_)
     refine nl ?_
     exact rt (RedGl.no (if_neg fun h => by have := lineB_lt h.1; simp at this; omega) rfl)
    ·exact absurd g15 (by decide)
end Go.Proofs.Ytnkddjdmpnghmaa.Am
namespace Go.Proofs.Ytnkddjdmpnghmaa.Am
set_option linter.unusedSimpArgs false
set_option linter.unusedVariables false
set_option maxRecDepth 100000
set_option maxHeartbeats 4000000
open Go Go.RowKit
theorem RedGl.told {g : List Int × Bool} {u : Value} {Y : List (Nat × Row)} (h : RedGl g u Y) {G : Mem} (hG : Rd G Y) : ∃ a c, u = .tuple #[.slice a g.1.length c, .bool g.2] ∧ RIx G a g.1 := by
  obtain ⟨a, c, e, h⟩ := h
  exact ⟨a, c, e, h G hG⟩
theorem sameE {F : Mem} {a : Option Addr} {xs : List Int} (c : Nat) (h : RIx F a xs) : RInts F (.slice a xs.length c) xs ∨ xs = [] := by
  rcases Nat.eq_zero_or_pos xs.length with hz | hz
  · exact .inr (List.eq_nil_of_length_eq_zero hz)
  · exact .inl (ints_RIx h hz rfl)
theorem SameX_C (F : Mem) (a b : Option Addr) (c d : Nat) (xs ys : List Int) (hv : RIx F a xs) (hu : RIx F b ys) : C0 Try.prog 16 [.slice a xs.length c, .slice b ys.length d] F (.bool (decide (xs = ys))) := by
  rcases sameE c hv with h1 | rfl
  · rcases sameE d hu with h2 | rfl
    · exact Same_C F _ _ xs ys h1 h2
    · have h3 := hu.pl
      refine C.go hT Try.func16 Try.ntmps16 ?_
      refine sq ?_
      refine rg ?_
      refine st (h := O) ?_
      refine nl ?_
      iterate 2 (refine sq ?_)
      refine rg ?_
      iterate 5 (refine st (h := O) ?_)
      refine nl ?_
      refine cN (fun c0 => ?_) (fun c0 => ?_)
      ·refine sq ?_
       refine rg ?_
       refine st (h := O) ?_
       refine nl ?_
       refine rt ⟨?_, rfl⟩
       have : xs ≠ [] := fun e => c0 (by rw [e])
       simp [this]
      ·have hx : xs = [] := List.eq_nil_of_length_eq_zero (by simpa using c0)
       subst hx
       refine sk ?_
       iterate 2 (refine sq ?_)
       refine rg ?_
       refine st (h := O) ?_
       refine nl ?_
       refine bl ?_
       refine J.loop1 (α := Nat) (fun k => k = 0) (fun k => [(5, .int .i64 k)]) [(0, _), (1, _)] (fun k => []) [] (fun k => 0) (0) (by exact ⟨rfl, trivial⟩) (by exact ⟨rfl, rfl, trivial⟩) (by exact trivial) ?_ ?_
       · rfl
       ·intro k L1 K1 e1 e2 hI
        dsimp only [apV, apR, List.cons_append, List.nil_append] at e1 e2
        subst e1 e2
        subst hI
        iterate 2 (refine sq ?_)
        refine rg ?_
        iterate 4 (refine st (h := O) ?_)
        refine nl ?_
        refine cD (fun c1 => ?_) (fun c1 => ?_)
        ·exact absurd c1 (by decide)
        ·refine ex ?_
         refine sq ?_
         refine rg ?_
         refine st (h := O) ?_
         refine nl ?_
         exact rt ⟨rfl, rfl⟩
  · have h3 := hu.pl
    refine C.go hT Try.func16 Try.ntmps16 ?_
    refine sq ?_
    refine rg ?_
    refine st (h := O) ?_
    refine nl ?_
    iterate 2 (refine sq ?_)
    refine rg ?_
    iterate 5 (refine st (h := O) ?_)
    refine nl ?_
    refine cN (fun c0 => ?_) (fun c0 => ?_)
    ·refine sq ?_
     refine rg ?_
     refine st (h := O) ?_
     refine nl ?_
     refine rt ⟨?_, rfl⟩
     have : ys ≠ [] := fun e => c0 (by rw [e])
     simp [Ne.symm this]
    ·have hx : ys = [] := List.eq_nil_of_length_eq_zero (by simp at c0; omega)
     subst hx
     refine sk ?_
     iterate 2 (refine sq ?_)
     refine rg ?_
     refine st (h := O) ?_
     refine nl ?_
     refine bl ?_
     refine J.loop1 (α := Nat) (fun k => k = 0) (fun k => [(5, .int .i64 k)]) [(0, _), (1, _)] (fun k => []) [] (fun k => 0) (0) (by exact ⟨rfl, trivial⟩) (by exact ⟨rfl, rfl, trivial⟩) (by exact trivial) ?_ ?_
     · rfl
     ·intro k L1 K1 e1 e2 hI
      dsimp only [apV, apR, List.cons_append, List.nil_append] at e1 e2
      subst e1 e2
      subst hI
      iterate 2 (refine sq ?_)
      refine rg ?_
      iterate 4 (refine st (h := O) ?_)
      refine nl ?_
      refine cD (fun c1 => ?_) (fun c1 => ?_)
      ·exact absurd c1 (by decide)
      ·refine ex ?_
       refine sq ?_
       refine rg ?_
       refine st (h := O) ?_
       refine nl ?_
       exact rt ⟨rfl, rfl⟩
theorem law4_C (F : Mem) (x : Ask) (A B : Int) {la aa : Option Addr} (lc ac : Nat) (hL : RItN F (.slice la x.l.length lc) x.l) (ha : RIx F aa x.ats) (hgl : ∀ i ∈ x.l, i.glyphs.length * 8 ≤ 140737488355328) : C0 Try.prog 4 [x.v la lc aa ac, .agg ⟨[.int .i64 A, .int .i64 B]⟩] F (.bool true) := by
  have h1 : PlA la := by
    obtain ⟨a, c, h, e⟩ := hL.opl
    simp only [Value.slice.injEq] at e
    rw [e.1]; exact h
  have h2 := ha.pl
  unfold Ask.v
  refine C.go hT Try.func4 Try.ntmps4 ?_
  refine sq ?_
  refine rg ?_
  refine bx (hL := by simp [ntL, ntV, nt2, argL, nt1_i, nt1_b, h1.nt, h2.nt]) ?_
  refine bx (hL := by simp [ntL, ntV, nt2, argL, nt1_i, nt1_b, nt1_p, h1.nt, h2.nt]) (hK := by simp [ntK, cellsL, nt1_i, nt1_b, h1.nt, h2.nt]) ?_
  refine JL.flatU (u := 2) [(3, _)] ?_ (hp := x.pl h1 h2 lc ac)
  refine st (h := O) ?_
  refine nl ?_
  iterate 2 (refine sq ?_)
  refine rg ?_
  refine st (h := sdLN) ?_
  refine cl (h := by exact fun ι hV hl => (large25_C _ x h1 h2 lc ac).ofR (arg1 (x.rV h1 h2 lc ac ι))) ?_
  refine nl ?_
  refine cB (fun c0 => ?_) (fun c0 => ?_)
  ·refine sq ?_
   refine rg ?_
   refine cl (h := by exact fun ι hV hl => wakes25_C _) ?_
   refine st (h := O) ?_
   refine nl ?_
   repeat refine J.dropF ?_
   first
     | exact rt ⟨rfl, rfl⟩
     | (exfalso; simp at *; done)
  ·have hlen : x.l.length ≤ 120 := by simp only [bigQ, decide_eq_false_iff_not] at c0; omega
   refine sk ?_
   refine sq ?_
   refine dr 17 [2, 3] [0, 1, 3, 4, 5, 6, 7, 8, 9, 10, 1002, 1011, 12, 13, 14, 15, 16] ?_
   refine dt (hv := by exact sdFA) ?_
   refine dt (hv := by exact sdL) ?_
   refine dt (hv := by exact sdFA) ?_
   refine dt (hv := by exact sdL) ?_
   refine dt (hv := by exact sdFA) ?_
   refine dt (hv := by exact sdL) ?_
   refine dt (hv := by exact sdFA) ?_
   refine dt (hv := by exact sdL) ?_
   refine dt (hv := by exact sdFA) ?_
   refine dt (hv := by exact sdL) ?_
   refine dclC (hkp := by first | exact Kept.all | exact Kept.k0 | exact Kept.kY | exact Kept.kYY | exact Kept.kY3) (h := by exact fun ι hV hl => (CopyN_C _ _ x.l (hL.le hl) (by omega) hgl).ofR (arg1 (h1.rV ι _ _))) ?_
   intro u1 Y1 hQ1 hv1 hp1 hN1
   obtain ⟨hs1, hcap1, hI1⟩ := hQ1
   have hI1 := hI1 _ hN1.rows
   obtain ⟨ca, cc, hca, rfl⟩ := hI1.opl
   refine dclC (hkp := by first | exact Kept.all | exact Kept.k0 | exact Kept.kY | exact Kept.kYY | exact Kept.kY3) (h := by exact fun ι hV hl => (Glue_C _ _ x.l A B x.w x.ag (hI1.le hl) hcap1).ofR (argC (hca.rV ι _ _) rfl)) ?_
   intro u2 Y2 hQ2 hv2 hp2 hN2
   obtain ⟨ga, gc, rfl, hx2⟩ := hQ2.told hN2.rows
   iterate 5 (refine dt (hv := by exact O) ?_)
   refine dn ?_
   refine sq ?_
   refine rg ?_
   refine st (h := sdFA) ?_
   refine st (h := sdL) ?_
   refine st (h := sdFA) ?_
   refine st (h := sdL) ?_
   refine st (h := sdFA) ?_
   refine st (h := sdL) ?_
   refine st (h := sdFA) ?_
   refine st (h := sdL) ?_
   refine st (h := sdFA) ?_
   refine st (h := sdL) ?_
   refine clC (h := by exact fun ι hV hl => (rGlueN_C _ _ x.l A B x.w x.ag (((hL.le hN1.le).le hN2.le).le hl)).ofR (argC (h1.rV ι _ _) rfl)) ?_
   intro u3 Y3 hQ3 hv3 hp3 hN3
   obtain ⟨ra, rc, rfl, hx3⟩ := hQ3.told hN3.rows
   have hx2 := hx2.le hN3.le
   iterate 5 (refine st (h := O) ?_)
   refine nl ?_
   refine sq ?_
   refine rg ?_
   iterate 2 (refine st (h := O) ?_)
   refine cl (h := by exact fun ι hV hl => (SameX_C _ _ _ _ _ _ _ (hx2.le hl) (hx3.le hl)).ofR (arg2 (hx2.pl.rV ι _ _) (hx3.pl.rV ι _ _))) ?_
   refine st (h := O) ?_
   refine gB (fun g44 => ?_) (fun g44 => ?_)
   ·refine sg (h := O) ?_
    refine sg (h := O) ?_
    refine sg (h := sbEq) ?_
    iterate 2 (refine st (h := O) ?_)
    refine gB (fun g49 => ?_) (fun g49 => ?_)
    ·refine clg (h := by exact fun ι hV hl => wakes25_C _) ?_
     iterate 2 (refine st (h := O) ?_)
     refine nl ?_
     repeat refine J.dropF ?_
     first
       | exact rt ⟨rfl, rfl⟩
       | (exfalso; simp at *; done)
    ·refine sp ?_
     iterate 2 (refine st (h := O) ?_)
     refine nl ?_
     repeat refine J.dropF ?_
     first
       | exact rt ⟨rfl, rfl⟩
       | (exfalso; simp at *; done)
   ·refine sp ?_
    iterate 2 (refine sp ?_)
    iterate 2 (refine st (h := O) ?_)
    refine sp ?_
    iterate 2 (refine st (h := O) ?_)
    refine nl ?_
    repeat refine J.dropF ?_
    first
      | exact rt ⟨rfl, rfl⟩
      | (exfalso; simp at *; done)
end Go.Proofs.Ytnkddjdmpnghmaa.Am
namespace Go.Proofs.Ytnkddjdmpnghmaa.Am
set_option linter.unusedSimpArgs false
set_option linter.unusedVariables false
set_option maxRecDepth 100000
set_option maxHeartbeats 4000000
open Go Go.RowKit
theorem law3_C (F : Mem) (x : Ask) {la aa : Option Addr} (lc ac : Nat) (hL : RItN F (.slice la x.l.length lc) x.l) (hA : RIx F aa x.ats) (hgl : ∀ i ∈ x.l, i.glyphs.length * 8 ≤ 140737488355328) : C0 Try.prog 3 [x.v la lc aa ac] F (.bool true) := by
  have h1 : PlA la := by
    obtain ⟨a, c, h, e⟩ := hL.opl
    simp only [Value.slice.injEq] at e
    rw [e.1]; exact h
  have h2 := hA.pl
  unfold Ask.v
  refine C.go hT Try.func3 Try.ntmps3 ?_
  refine sq ?_
  refine rg ?_
  refine bx (hL := by simp [ntL, ntV, nt2, argL, nt1_i, nt1_b, h1.nt, h2.nt]) ?_
  refine JL.flatU (u := 1) [] ?_ (hp := x.pl h1 h2 lc ac)
  refine st (h := O) ?_
  refine nl ?_
  iterate 2 (refine sq ?_)
  refine rg ?_
  refine st (h := sdLN) ?_
  refine cl (h := by exact fun ι hV hl => (large25_C _ x h1 h2 lc ac).ofR (arg1 (x.rV h1 h2 lc ac ι))) ?_
  refine nl ?_
  refine cB (fun c0 => ?_) (fun c0 => ?_)
  ·refine sq ?_
   refine rg ?_
   refine cl (h := by exact fun ι hV hl => wakes25_C _) ?_
   refine st (h := O) ?_
   refine nl ?_
   repeat refine J.dropF ?_
   first
     | exact rt ⟨rfl, rfl⟩
     | (exfalso; simp at *; done)
  ·have hlen : x.l.length ≤ 120 ∧ x.ats.length ≤ 240 := by simp only [bigQ, decide_eq_false_iff_not] at c0; omega
   refine sk ?_
   refine sq ?_
   refine rg ?_
   refine st (h := sdFA) ?_
   refine st (h := sdL) ?_
   refine clC (h := by exact fun ι hV hl => (CopyN_C _ _ x.l (hL.le hl) (by omega) hgl).ofR (arg1 (h1.rV ι _ _))) ?_
   intro u1 Y1 hQ1 hv1 hp1 hN1
   obtain ⟨hs1, hcap1, hI1⟩ := hQ1
   have hI1 := hI1 _ hN1.rows
   obtain ⟨ca, cc, hca, rfl⟩ := hI1.opl
   refine st (h := O) ?_
   refine nl ?_
   refine sq ?_
   refine J.weak (L0 := [(1, _), (3, _)]) (K0 := [(1, _)]) (by exact ⟨rfl, rfl, trivial⟩) (by exact ⟨rfl, rfl, trivial⟩) ?_
   refine rg ?_
   refine sl (hL := by simp [ntL, ntV, nt2, nt1_i, nt1_b, nt1_p, hca.nt]) ?_
   refine st (h := sdFA) ?_
   refine st (h := sdL) ?_
   refine apA0 1 1018 15 [(1, _), (3, _)] [(1, _)] ((hA.le hN1.le).app ac) (ivs_pl _) ?_ (hL := by simp [ntL, ntV, nt2, nt1_i, nt1_b, nt1_o, nt1_p, hca.nt, h2.nt]) (hLu := by simp [ntL, ntV, nt2, nt1_i, nt1_b, nt1_o, nt1_p, hca.nt, h2.nt])
   intro cap18 hc18 hd18
   refine st (h := O) ?_
   refine nl ?_
   refine sq ?_
   refine rg ?_
   iterate 2 (refine st (h := O) ?_)
   refine st (h := sdFA) ?_
   refine st (h := sdL) ?_
   refine st (h := sdFA) ?_
   refine st (h := sdL) ?_
   refine clC (h := by exact fun ι hV hl => (Set_C _ _ (some ⟨ι 15, 0, none⟩) cap18 x.l x.ats x.w x.ag (hI1.le hl) (hV.intsX (t := 15) rfl rfl (by omega)) hcap1 hgl (by omega)).ofR (argC (hca.rV ι _ _) rfl)) ?_
   intro u2 Y2 hQ2 hv2 hp2 hN2
   obtain ⟨lv, rfl, hlv, hR2⟩ := hQ2
   have hS2 := hR2 _ hN2.rows
   obtain ⟨pa, pc, hpa, rfl, _⟩ := hS2.opq
   iterate 5 (refine st (h := O) ?_)
   refine nl ?_
   refine sq ?_
   refine rg ?_
   refine st (h := sdFA) ?_
   refine st (h := sdL) ?_
   refine st (h := sdFA) ?_
   refine st (h := sdL) ?_
   refine st (h := sdFA) ?_
   refine st (h := sdL) ?_
   refine st (h := sdFA) ?_
   refine st (h := sdL) ?_
   refine clC (h := by exact fun ι hV hl => (rSetN_C _ _ aa ac x.l x.ats x.w x.ag (((hL.le hN1.le).le hN2.le).le hl) (((hA.le hN1.le).le hN2.le).le hl) hgl (by omega)).ofR (argC (h1.rV ι _ _) (argC (h2.rV ι _ _) rfl))) ?_
   intro u3 Y3 hQ3 hv3 hp3 hN3
   obtain ⟨lw, rfl, hlw, hR3⟩ := hQ3
   have hS3 := hR3 _ hN3.rows
   obtain ⟨qa, qc, hqa, rfl, _⟩ := hS3.opq
   have hS2 := hS2.le hN3.le (TLn.le hN3.le)
   iterate 5 (refine st (h := O) ?_)
   refine nl ?_
   refine sq ?_
   refine rg ?_
   iterate 2 (refine st (h := O) ?_)
   refine cl (h := by exact fun ι hV hl => (SameLines_C _ _ _ _ _ (hS2.le hl (TLn.le hl)) (hS3.le hl (TLn.le hl))).ofR (arg2 (hpa.rV ι _ _) (hqa.rV ι _ _))) ?_
   refine st (h := O) ?_
   refine gB (fun g44 => ?_) (fun g44 => ?_)
   ·refine sg (h := O) ?_
    iterate 2 (refine sg (h := O) ?_)
    iterate 2 (refine st (h := O) ?_)
    refine gD (fun g49 => ?_) (fun g49 => ?_)
    ·refine sg (h := O) ?_
     refine sg (h := sdFA) ?_
     refine sg (h := sdL) ?_
     refine clg (h := by exact fun ι hV hl => (SameN_C _ _ _ x.l x.l (((hI1.le hN2.le).le hN3.le).le hl) ((((hL.le hN1.le).le hN2.le).le hN3.le).le hl)).ofR (arg2 (hca.rV ι _ _) (h1.rV ι _ _))) ?_
     iterate 2 (refine st (h := O) ?_)
     refine gB (fun g55 => ?_) (fun g55 => ?_)
     ·refine sg (h := O) ?_
      refine sg (h := sdFA) ?_
      refine sg (h := sdL) ?_
      refine clg (h := by exact fun ι hV hl => (SameX_C _ (some ⟨ι 15, 0, none⟩) aa cap18 ac x.ats x.ats (hV.intsX (t := 15) rfl rfl (by omega)) ((((hA.le hN1.le).le hN2.le).le hN3.le).le hl)).ofR (arg2 rfl (h2.rV ι _ _))) ?_
      iterate 2 (refine st (h := O) ?_)
      refine gB (fun g61 => ?_) (fun g61 => ?_)
      ·refine clg (h := by exact fun ι hV hl => wakes25_C _) ?_
       iterate 2 (refine st (h := O) ?_)
       refine nl ?_
       repeat refine J.dropF ?_
       first
         | exact rt ⟨rfl, rfl⟩
         | (exfalso; simp at *; done)
      ·refine sp ?_
       iterate 2 (refine st (h := O) ?_)
       refine nl ?_
       repeat refine J.dropF ?_
       first
         | exact rt ⟨rfl, rfl⟩
         | (exfalso; simp at *; done)
     ·refine sp ?_
      iterate 3 (refine sp ?_)
      iterate 2 (refine st (h := O) ?_)
      refine sp ?_
      iterate 2 (refine st (h := O) ?_)
      refine nl ?_
      repeat refine J.dropF ?_
      first
        | exact rt ⟨rfl, rfl⟩
        | (exfalso; simp at *; done)
    ·refine sp ?_
     iterate 3 (refine sp ?_)
     iterate 2 (refine st (h := O) ?_)
     iterate 4 (refine sp ?_)
     iterate 2 (refine st (h := O) ?_)
     refine sp ?_
     iterate 2 (refine st (h := O) ?_)
     refine nl ?_
     repeat refine J.dropF ?_
     first
       | exact rt ⟨rfl, rfl⟩
       | (exfalso; simp at *; done)
   ·refine sp ?_
    iterate 2 (refine sp ?_)
    iterate 2 (refine st (h := O) ?_)
    iterate 4 (refine sp ?_)
    iterate 2 (refine st (h := O) ?_)
    iterate 4 (refine sp ?_)
    iterate 2 (refine st (h := O) ?_)
    refine sp ?_
    iterate 2 (refine st (h := O) ?_)
    refine nl ?_
    repeat refine J.dropF ?_
    first
      | exact rt ⟨rfl, rfl⟩
      | (exfalso; simp at *; done)
end Go.Proofs.Ytnkddjdmpnghmaa.Am
namespace Go.Proofs.Ytnkddjdmpnghmaa.Am
set_option linter.unusedSimpArgs false
set_option linter.unusedVariables false
open Go Go.RowKit
section
variable {H : Type} {enc : TypeId × Value → H} {P : Program} {W : World}
theorem cell_lt {a : Addr} {u : Value} (h : W.cell? a = some u) : a.block < W.heap.size ∧ a.spot = none := by
  unfold World.cell? at h
  split at h
  · rename_i c e f hb
    split at h
    · simp at h
    · rename_i hs
      refine ⟨(Array.getElem?_eq_some_iff.1 hb).1, ?_⟩
      simpa using hs
  · simp at h
theorem look_w {a : Addr} {u : Value} (h : W.cell? a = some u) (hp : plain1 (e1 u) = true) : look ⟨W, []⟩ a = some (e1 u) := by
  have := (cell_lt h).1
  simp only [look, this, if_true, h, Option.map_some, Option.bind_some, hp]
theorem pick_list {β : Type} {Q : Nat → β → Prop} : ∀ (n : Nat), (∀ i, i < n → ∃ x, Q i x) → ∃ xs : List β, xs.length = n ∧ ∀ i x, xs[i]? = some x → Q i x := by
  intro n
  induction n with
  | zero => intro _; exact ⟨[], rfl, fun i x h => by simp at h⟩
  | succ n ih =>
    intro h
    obtain ⟨xs, hl, hx⟩ := ih (fun i hi => h i (by omega))
    obtain ⟨x, hq⟩ := h n (by omega)
    refine ⟨xs ++ [x], by simp [hl], fun i y hy => ?_⟩
    by_cases hi : i < n
    · rw [List.getElem?_append_left (by omega)] at hy; exact hx i y hy
    · have hi2 : i < n + 1 := by have := (List.getElem?_eq_some_iff.1 hy).1; simp [hl] at this; omega
      have e : i = n := by omega
      subst e
      rw [List.getElem?_append_right (by omega), hl] at hy
      simp at hy
      rw [← hy]; exact hq
theorem weights_all_mem {e : TypeId} {d : DataW H} : ∀ {ds : List (DataW H)}, d ∈ ds → ∀ n ∈ d.weights P e, n ∈ DataW.weightsAll P e ds := by
  intro ds
  induction ds with
  | nil => intro h; simp at h
  | cons a r ih =>
    intro h n hn
    simp only [DataW.weightsAll, List.mem_append]
    rcases List.mem_cons.1 h with rfl | h
    · exact .inl hn
    · exact .inr (ih h n hn)
/-- a slice that is handed in: where it has room it lies in the world -/
theorem open_slice {t e : TypeId} (B sz : Nat) (ht : P.underlying t = some (.slice e)) (hc : P.cellsOf e = sz) (hB : P.bytesOf e = B) (hsz : 0 < sz) {fuel : Nat} {cs : List Value} {y : DataW H × List MemPlace}
    (hy : DataW.trod enc P W 0 (fun _ => true) true fuel t cs = some y) (hw : ∀ n ∈ y.1.weights P t, n ≤ reachBytes) :
    (cs = [.slice none 0 0]) ∨ (∃ b o s, cs = [.slice (some ⟨b, o, some s⟩) 0 0]) ∨ ∃ b o len cap, cs = [.slice (some ⟨b, o, none⟩) len cap] ∧ len ≤ cap ∧ len ≤ 9223372036854775807 ∧ len * B ≤ 140737488351232 ∧
      ∀ i, i < len → ∃ (c : List Value) (n : Nat) (z : DataW H × List MemPlace), c.length = sz ∧ (∀ j u, c[j]? = some u → W.cell? ⟨b, o + i * sz + j, none⟩ = some u) ∧ DataW.trod enc P W 0 (fun _ => true) true n e c = some z ∧ ∀ n ∈ z.1.weights P e, n ≤ reachBytes := by
  rcases DataW.trod_slice ht hy with ⟨rfl, _⟩ | ⟨a, len, cap, elems, rest, n, _, rfl, rfl, _, hl, hm, hlen, hel, hsp, _⟩
  · exact .inl rfl
  · obtain ⟨hr1, hr2⟩ := hsp rfl
    have hwt : ∀ d ∈ elems.map (·.1), ∀ m ∈ d.weights P e, m ≤ reachBytes := fun d hd m hm2 => hw m (by
      simp only [DataW.weights, ht, List.mem_cons, List.mem_append]
      exact .inr (.inl (weights_all_mem hd m hm2)))
    have each : ∀ i, i < len → ∃ (c : List Value) (z : DataW H × List MemPlace), c.length = sz ∧ (∀ j u, c[j]? = some u → W.cell? (a.add (i * sz + j)) = some u) ∧ DataW.trod enc P W 0 (fun _ => true) true n e c = some z ∧ ∀ n ∈ z.1.weights P e, n ≤ reachBytes := by
      intro i hi
      have h1 := hel i hi
      rw [List.getElem?_eq_getElem (show i < elems.length from by omega), Option.bind_eq_some_iff] at h1
      obtain ⟨c, hcs, hy'⟩ := h1
      obtain ⟨_, hcl, hcell⟩ := World.cells?_some hcs
      refine ⟨c, _, by omega, fun j u hj => ?_, hy', fun m hm2 => hwt _ (List.mem_map.2 ⟨_, List.getElem_mem _, rfl⟩) m hm2⟩
      have hj2 : j < P.cellsOf e := by have := (List.getElem?_eq_some_iff.1 hj).1; omega
      have := hcell j hj2
      rw [hj, hc] at this
      rw [← this, Go.Addr.add_add]
    by_cases h0 : cap = 0
    · subst h0
      obtain rfl : len = 0 := by omega
      obtain ⟨b, o, s⟩ := a
      cases s with
      | none => exact .inr (.inr ⟨b, o, 0, 0, rfl, Nat.le_refl _, Nat.zero_le _, by omega, fun i hi => absurd hi (Nat.not_lt_zero i)⟩)
      | some s => exact .inr (.inl ⟨b, o, s, rfl⟩)
    · have hspot : a.spot = none := by
        have aux : ∀ k c, k = 0 → W.cells? 0 (a.add (k * P.cellsOf e)) (P.cellsOf e) = some c → a.spot = none := by
          intro k c hk hcs
          subst hk
          obtain ⟨_, hcl, hcell⟩ := World.cells?_some hcs
          have hlt : 0 < c.length := by omega
          have h2 := hcell 0 (by omega)
          rw [List.getElem?_eq_getElem hlt] at h2
          have := (cell_lt h2).2
          simpa [Addr.add] using this
        by_cases hl0 : len = 0
        · have h1 := hr2 0 (by omega)
          rw [List.getElem?_eq_getElem (show 0 < rest.length from by omega), Option.bind_eq_some_iff] at h1
          obtain ⟨c, hcs, _⟩ := h1
          exact aux (len + 0) c (by omega) hcs
        · have h1 := hel 0 (by omega)
          rw [List.getElem?_eq_getElem (show 0 < elems.length from by omega), Option.bind_eq_some_iff] at h1
          obtain ⟨c, hcs, _⟩ := h1
          exact aux 0 c rfl hcs
      obtain ⟨b, o, s⟩ := a
      simp only at hspot
      subst hspot
      refine .inr (.inr ⟨b, o, len, cap, rfl, hl, ?_, ?_, fun i hi => ?_⟩)
      · have : maxLen = 9223372036854775807 := by decide
        omega
      · have := hw ((elems.length + rest.length) * P.bytesOf e) (by
          have e1 : (elems.map (·.1)).length = elems.length := List.length_map _
          have e2 : (rest.map (·.1)).length = rest.length := List.length_map _
          simp only [DataW.weights, ht, List.mem_cons, e1, e2]
          exact .inl trivial)
        rw [hB] at this
        have h2 : len * B ≤ (elems.length + rest.length) * B := Nat.mul_le_mul_right _ (by omega)
        exact Nat.le_trans h2 (Nat.le_trans this (by decide))
      · obtain ⟨c, z, h1, h2, h3, h4⟩ := each i hi
        exact ⟨c, n, z, h1, fun j u hj => by rw [← h2 j u hj, addA_none, Nat.add_assoc], h3, h4⟩
end
/-- an argument's weights, out of all arguments' -/
theorem weigh {H : Type} {P : Program} {ts : List TypeId} {ds : List (DataW H)} {j : Nat} {t : TypeId} {d : DataW H} (h : (DataW.weightsEach P ts ds).all (· ≤ reachBytes) = true) (ht : ts[j]? = some t) (hd : ds[j]? = some d) : ∀ n ∈ d.weights P t, n ≤ reachBytes :=
  fun n hn => by have := List.all_eq_true.1 h n (DataW.weights_mem_each ht hd n hn); simpa using this
/-- a function that is told for whoever calls it, called from the world as it is handed in -/
theorem C0.run {P : Program} {f : FuncId} {args : List Value} {W : World} {r : Value} (h : C0 P f args ⟨W, []⟩ r) (ha : args.map (cV id) = args) (hr : cV id r = r) : Calls P f args.toArray W fun e w' => e = .returned r ∧ Below W.heap.size W w' := by
  have hS : St ⟨W, []⟩ id [] W := ⟨⟨rfl, rfl, rfl, Nat.le_refl _, fun _ _ => rfl⟩, by simp, (fun x hx => by cases hx), (fun x hx => by cases hx)⟩
  have h1 := h id W hS
  rw [ha] at h1
  exact h1.mono fun e w' ⟨v, X, h2, _, _, h3, h4, h5⟩ => by
    subst h4
    exact ⟨by rw [h2, hr], h3.below⟩
end Go.Proofs.Ytnkddjdmpnghmaa.Am
namespace Go.Proofs.Ytnkddjdmpnghmaa.Am
set_option linter.unusedSimpArgs false
set_option linter.unusedVariables false
open Go Go.RowKit
structure Knd (α : Type) where
  sz : Nat
  R : Mem → List Value → α → Prop
  len : ∀ {F : Mem} {cs : List Value} {x : α}, R F cs x → cs.length = sz
  le : ∀ {F F' : Mem} {cs : List Value} {x : α}, F.le F' → R F cs x → R F' cs x
theorem lookN_le {F F' : Mem} (hl : F.le F') : ∀ {n : Nat} {a : Addr} {cs : List Value}, lookN F a n = some cs → lookN F' a n = some cs := by
  intro n
  induction n with
  | zero => intro a cs h; exact h
  | succ n ih =>
    intro a cs h
    simp only [lookN] at h ⊢
    split at h <;> try (simp at h; done)
    rename_i v hv
    split at h <;> try (simp at h; done)
    rename_i cs' hcs
    rw [hl _ _ hv, ih hcs]; exact h
/-- a slice, told by what stands in it -/
def Knd.S {α : Type} (k : Knd α) (F : Mem) (v : Value) (xs : List α) : Prop :=
  (∃ b off c, v = .slice (some ⟨b, off, none⟩) xs.length c ∧ xs.length ≤ 9223372036854775807 ∧ ∀ i x, xs[i]? = some x → ∃ cs, lookN F ⟨b, off + i * k.sz, none⟩ k.sz = some cs ∧ k.R F cs x) ∨ (v = .slice none 0 0 ∧ xs = [])
theorem Knd.S.le {α : Type} {k : Knd α} {F F' : Mem} {v : Value} {xs : List α} (h : k.S F v xs) (hl : F.le F') : k.S F' v xs := by
  rcases h with ⟨b, off, c, h1, h2, h3⟩ | h
  · exact .inl ⟨b, off, c, h1, h2, fun i x hx => by obtain ⟨cs, hc, hr⟩ := h3 i x hx; exact ⟨cs, lookN_le hl hc, k.le hl hr⟩⟩
  · exact .inr h
def Knd.int (j : IntKind) : Knd Int where
  sz := 1
  R _ cs x := cs = [.int j x]
  len h := by rw [h]; rfl
  le _ h := h
def Knd.bool : Knd Bool where
  sz := 1
  R _ cs x := cs = [.bool x]
  len h := by rw [h]; rfl
  le _ h := h
def Knd.string : Knd ByteArray where
  sz := 1
  R _ cs x := cs = [.string x]
  len h := by rw [h]; rfl
  le _ h := h
/-- a slice in a cell: of nothing, the address may be any -/
def Knd.slice {α : Type} (k : Knd α) : Knd (List α) where
  sz := 1
  R F cs xs := ∃ v, cs = [v] ∧ (k.S F v xs ∨ ∃ b o s, v = .slice (some ⟨b, o, some (s + 1)⟩) 0 0 ∧ xs = [])
  len h := by obtain ⟨v, rfl, _⟩ := h; rfl
  le hl h := by
    obtain ⟨v, e, h⟩ := h
    exact ⟨v, e, h.imp (·.le hl) id⟩
def Knd.pair {α β : Type} (k : Knd α) (j : Knd β) : Knd (α × β) where
  sz := k.sz + j.sz
  R F cs x := ∃ c1 c2, cs = c1 ++ c2 ∧ k.R F c1 x.1 ∧ j.R F c2 x.2
  len h := by obtain ⟨c1, c2, rfl, h1, h2⟩ := h; rw [List.length_append, k.len h1, j.len h2]
  le hl h := by
    obtain ⟨c1, c2, e, h1, h2⟩ := h
    exact ⟨c1, c2, e, k.le hl h1, j.le hl h2⟩
section
variable {H : Type} {enc : TypeId × Value → H} {P : Program} {W : World}
def Opens {α : Type} (enc : TypeId × Value → H) (P : Program) (W : World) (t : TypeId) (k : Knd α) (G : α → Prop) : Prop :=
  ∀ (fuel : Nat) (cs : List Value) (y : DataW H × List MemPlace), DataW.trod enc P W 0 (fun _ => true) true fuel t cs = some y → (∀ n ∈ y.1.weights P t, n ≤ reachBytes) → ∃ x, k.R ⟨W, []⟩ (cs.map e1) x ∧ (∀ u ∈ cs, plain1 (e1 u) = true) ∧ G x
theorem opens_int {t : TypeId} {k : IntKind} (ht : P.underlying t = some (.int k)) : Opens enc P W t (Knd.int k) (fun n => (Lit.int k n).wf = true) := by
  intro fuel cs y h _
  obtain ⟨n, rfl, _, hw⟩ := DataW.trod_int ht h
  exact ⟨n, rfl, fun u hu => by simp only [List.mem_singleton] at hu; subst hu; rfl, hw⟩
theorem opens_bool {t : TypeId} (ht : P.underlying t = some .bool) : Opens enc P W t Knd.bool (fun _ => True) := by
  intro fuel cs y h _
  obtain ⟨b, rfl, _⟩ := DataW.trod_bool ht h
  exact ⟨b, rfl, fun u hu => by simp only [List.mem_singleton] at hu; subst hu; rfl, trivial⟩
theorem opens_weak {α : Type} {t : TypeId} {k : Knd α} {G G' : α → Prop} (h : Opens enc P W t k G) (hg : ∀ x, G x → G' x) : Opens enc P W t k G' := by
  intro fuel cs y hy hw
  obtain ⟨p, hK, hp, hG⟩ := h fuel cs y hy hw
  exact ⟨p, hK, hp, hg _ hG⟩
/-- the rows of a slice that is handed in -/
theorem opens_rows {α : Type} {t e : TypeId} {k : Knd α} {G : α → Prop} (B : Nat) (ht : P.underlying t = some (.slice e)) (hc : P.cellsOf e = k.sz) (hB : P.bytesOf e = B) (hsz : 0 < k.sz) (h : Opens enc P W e k G) {fuel : Nat} {cs : List Value} {y : DataW H × List MemPlace}
    (hy : DataW.trod enc P W 0 (fun _ => true) true fuel t cs = some y) (hw : ∀ n ∈ y.1.weights P t, n ≤ reachBytes) :
    ∃ (v : Value) (xs : List α), cs = [v] ∧ (k.S ⟨W, []⟩ (e1 v) xs ∨ ∃ b o s, v = .slice (some ⟨b, o, some s⟩) 0 0 ∧ xs = []) ∧ plain1 (e1 v) = true ∧ (∀ x ∈ xs, G x) ∧ xs.length * B ≤ 140737488351232 ∧ ∀ a n c, v = .slice a n c → n ≤ c := by
  rcases open_slice B k.sz ht hc hB hsz hy hw with rfl | ⟨b, o, s, rfl⟩ | ⟨b, o, len, cap, rfl, hl, hm, hb, each⟩
  · exact ⟨_, [], rfl, .inl (.inr ⟨rfl, rfl⟩), rfl, fun x hx => (by cases hx), by simp, fun a n c e => by simp only [Value.slice.injEq] at e; omega⟩
  · exact ⟨_, [], rfl, .inr ⟨b, o, s, rfl, rfl⟩, rfl, fun x hx => (by cases hx), by simp, fun a n c e => by simp only [Value.slice.injEq] at e; omega⟩
  · obtain ⟨xs, hll, hls⟩ := pick_list (Q := fun i (x : α) => (∃ cs, lookN ⟨W, []⟩ ⟨b, o + i * k.sz, none⟩ k.sz = some cs ∧ k.R ⟨W, []⟩ cs x) ∧ G x) len (fun i hi => by
      obtain ⟨c, n, z, h1, h2, h3, h4⟩ := each i hi
      obtain ⟨x, hR, hp, hG⟩ := h n c z h3 h4
      refine ⟨x, ⟨c.map e1, ?_, hR⟩, hG⟩
      have := lookN_of (F := ⟨W, []⟩) (a := ⟨b, o + i * k.sz, none⟩) (cs := c.map e1) (fun j v hv => by
        rw [List.getElem?_map] at hv
        cases hu : c[j]? with
        | none => simp [hu] at hv
        | some u =>
          simp only [hu, Option.map_some, Option.some.injEq] at hv
          subst hv
          exact look_w (h2 j u hu) (hp u (List.mem_of_getElem? hu)))
      rw [List.length_map, h1] at this
      exact this)
    refine ⟨_, xs, rfl, .inl (.inl ⟨b, o, cap, by rw [hll]; rfl, by omega, fun i x hx => (hls i x hx).1⟩), rfl, fun x hx => ?_, by rw [hll]; exact hb, fun a n c e => by simp only [Value.slice.injEq] at e; omega⟩
    obtain ⟨i, hi⟩ := List.getElem?_of_mem hx
    exact (hls i x hi).2
theorem opens_slice {α : Type} {t e : TypeId} {k : Knd α} {G : α → Prop} (B : Nat) (ht : P.underlying t = some (.slice e)) (hc : P.cellsOf e = k.sz) (hB : P.bytesOf e = B) (hsz : 0 < k.sz) (h : Opens enc P W e k G) :
    Opens enc P W t k.slice (fun xs => (∀ x ∈ xs, G x) ∧ xs.length * B ≤ 140737488351232) := by
  intro fuel cs y hy hw
  obtain ⟨v, xs, rfl, hS, hp, hG, hb, _⟩ := opens_rows B ht hc hB hsz h hy hw
  refine ⟨xs, ⟨e1 v, rfl, ?_⟩, fun u hu => by simp only [List.mem_singleton] at hu; subst hu; exact hp, hG, hb⟩
  rcases hS with hS | ⟨b, o, s, rfl, rfl⟩
  · exact .inl hS
  · exact .inr ⟨b, o, s, rfl, rfl⟩
/-- the cells of some fields, one behind the other -/
def catF (P : Program) (cs : List Value) : List Field → List Value
  | [] => []
  | f :: fs => (cs.drop f.offset).take (P.cellsOf f.type) ++ catF P cs fs
def OpensF {α : Type} (enc : TypeId × Value → H) (P : Program) (W : World) (fs : List Field) (k : Knd α) (G : α → Prop) : Prop :=
  ∀ (fuel : Nat) (cs : List Value) (xs : List (DataW H × List MemPlace)), xs.length = fs.length → (∀ (i : Nat) (f : Field), fs[i]? = some f → DataW.trod enc P W 0 (fun _ => true) true fuel f.type ((cs.drop f.offset).take (P.cellsOf f.type)) = xs[i]?) →
    (∀ n ∈ DataW.weightsEach P (fs.map (·.type)) (xs.map (·.1)), n ≤ reachBytes) → ∃ x, k.R ⟨W, []⟩ ((catF P cs fs).map e1) x ∧ (∀ u ∈ catF P cs fs, plain1 (e1 u) = true) ∧ G x
theorem opensF_one {α : Type} {f : Field} {k : Knd α} {G : α → Prop} (h : Opens enc P W f.type k G) : OpensF enc P W [f] k G := by
  intro fuel cs xs hl hf hw
  match xs, hl with
  | [y], _ =>
    obtain ⟨x, hK, hp, hG⟩ := h fuel _ y (hf 0 f rfl) (fun n hn => hw n (by simp only [List.map_cons, List.map_nil, DataW.weightsEach, List.mem_append]; exact .inl hn))
    exact ⟨x, by simpa [catF] using hK, fun u hu => hp u (by simpa [catF] using hu), hG⟩
theorem opensF_cons {α β : Type} {f : Field} {fs : List Field} {k : Knd α} {k2 : Knd β} {G : α → Prop} {G2 : β → Prop} (h : Opens enc P W f.type k G) (h2 : OpensF enc P W fs k2 G2) : OpensF enc P W (f :: fs) (k.pair k2) (fun x => G x.1 ∧ G2 x.2) := by
  intro fuel cs xs hl hf hw
  match xs, hl with
  | y :: ys, hl =>
    obtain ⟨x, hK, hp, hG⟩ := h fuel _ y (hf 0 f rfl) (fun n hn => hw n (by simp only [List.map_cons, DataW.weightsEach, List.mem_append]; exact .inl hn))
    obtain ⟨x2, hK2, hp2, hG2⟩ := h2 fuel cs ys (by simpa using hl) (fun i g hg => hf (i + 1) g hg) (fun n hn => hw n (by simp only [List.map_cons, DataW.weightsEach, List.mem_append]; exact .inr hn))
    exact ⟨(x, x2), ⟨_, _, List.map_append, hK, hK2⟩, fun u hu => by
      simp only [catF, List.mem_append] at hu
      rcases hu with hu | hu
      · exact hp u hu
      · exact hp2 u hu, hG, hG2⟩
/-- the fields stand one behind the other from o on; how many cells they take -/
def contig (P : Program) : Nat → List Field → Option Nat
  | o, [] => some o
  | o, f :: fs => if f.offset = o then contig P (o + P.cellsOf f.type) fs else none
theorem catF_contig (cs : List Value) : ∀ (fs : List Field) (o m : Nat), contig P o fs = some m → m ≤ cs.length → catF P cs fs = (cs.drop o).take (m - o) ∧ o ≤ m := by
  intro fs
  induction fs with
  | nil => intro o m h hm; simp only [contig, Option.some.injEq] at h; subst h; simp [catF]
  | cons f fs ih =>
    intro o m h hm
    simp only [contig] at h
    split at h
    · rename_i ho
      obtain ⟨e, h1⟩ := ih _ _ h hm
      refine ⟨?_, by omega⟩
      simp only [catF]
      rw [e, ho, show m - o = P.cellsOf f.type + (m - (o + P.cellsOf f.type)) from by omega, List.take_add, List.drop_drop]
    · exact absurd h (by simp)
theorem opens_struct {α : Type} {t : TypeId} {fs : Array Field} {k : Knd α} {G : α → Prop} (ht : P.underlying t = some (.struct fs)) (hcon : contig P 0 fs.toList = some (P.cellsOf t)) (h : OpensF enc P W fs.toList k G) : Opens enc P W t k G := by
  intro fuel cs y hy hw
  obtain ⟨xs, n, _, rfl, hl, hxl, hx⟩ := DataW.trod_struct ht hy
  obtain ⟨x, hK, hp, hG⟩ := h n cs xs (by simpa using hxl) (fun i f hf => hx i f (by simpa using hf)) (fun m hm => hw m (by simp only [DataW.weights, ht]; exact hm))
  obtain ⟨e, _⟩ := catF_contig (P := P) cs fs.toList 0 _ hcon (by omega)
  have e2 : catF P cs fs.toList = cs := by rw [e]; simp [← hl]
  rw [e2] at hK hp
  exact ⟨x, hK, hp, hG⟩
/-- a value that is handed in, as it is told -/
def eV : Value → Value
  | .agg cs => .agg ⟨cs.toList.map e1⟩
  | v => e1 v
theorem cV_eV {v : Value} (h : ∀ vs, v ≠ .tuple vs) : cV id (eV v) = v := by
  cases v with
  | agg cs =>
    have : (⟨cs.toList.map e1⟩ : Array Value).map (c1 id) = cs := by
      apply Array.ext'
      simp only [Array.toList_map, List.map_map]
      conv => rhs; rw [← List.map_id cs.toList]
      exact List.map_congr_left fun v _ => c1_e1 id v
    show cV id (.agg ⟨cs.toList.map e1⟩) = .agg cs
    rw [cV_agg, this]
  | tuple vs => exact absurd rfl (h vs)
  | func fn x y => exact c1_e1 id (.func fn x y)
  | pointer a => cases a with
    | none => rfl
    | some a => exact c1_e1 id (.pointer (some a))
  | slice a n c => cases a with
    | none => rfl
    | some a => exact c1_e1 id (.slice (some a) n c)
  | _ => rfl
/-- an argument, opened -/
theorem opened {α : Type} {t : TypeId} {k : Knd α} {G : α → Prop} {v : Value} {d : DataW H} {ps : List MemPlace} (h : Opens enc P W t k G) (ht : DataW.Trod enc P W 0 (fun _ => true) true t v d ps) (hw : ∀ n ∈ d.weights P t, n ≤ reachBytes) : ∃ x, k.R ⟨W, []⟩ (v.cells.toList.map e1) x ∧ G x := by
  obtain ⟨fuel, hf⟩ := ht
  obtain ⟨x, h1, _, h2⟩ := h fuel _ _ hf hw
  exact ⟨x, h1, h2⟩
end
/-- a function that is told for whoever calls it, called from the world as it is handed in -/
theorem C0.run_e {P : Program} {f : FuncId} {args : List Value} {W : World} {r : Value} (h : C0 P f (args.map eV) ⟨W, []⟩ r) (ha : ∀ v ∈ args, ∀ vs, v ≠ .tuple vs) (hr : cV id r = r) : Calls P f args.toArray W fun e w' => e = .returned r ∧ Below W.heap.size W w' := by
  have e : (args.map eV).map (cV id) = args := by
    rw [List.map_map]
    conv => rhs; rw [← List.map_id args]
    exact List.map_congr_left fun v hv => cV_eV (ha v hv)
  have := C0.run (P := P) (f := f) (args := args.map eV) (W := W) (r := r)
  obtain h2 := h id W (St.none W id)
  rw [e] at h2
  refine h2.mono fun x w' ⟨v, X, h1, _, _, h3, h4, h5⟩ => ?_
  subst h4 h5
  exact ⟨by rw [h1, hr], h3.below⟩
end Go.Proofs.Ytnkddjdmpnghmaa.Am
namespace Go.Proofs.Ytnkddjdmpnghmaa.Am
set_option linter.unusedSimpArgs false
set_option linter.unusedVariables false
open Go Go.RowKit
section
variable {H : Type} {enc : TypeId × Value → H} {P : Program} {W : World}
end
theorem wf_i64 {n : Int} (h : (Lit.int .i64 n).wf = true) : i64ok n := bounds_i64 h
end Go.Proofs.Ytnkddjdmpnghmaa.Am
namespace Go.Proofs.Ytnkddjdmpnghmaa.Am
set_option linter.unusedSimpArgs false
set_option linter.unusedVariables false
set_option maxRecDepth 100000
set_option maxHeartbeats 4000000
open Go Go.RowKit
def kItem : Knd Item where
  sz := 11
  R F cs x := ∃ g, cs = x.cells g ∧ RGl F g x.glyphs
  len h := by obtain ⟨g, rfl, _⟩ := h; rfl
  le hl h := by obtain ⟨g, e, h⟩ := h; exact ⟨g, e, h.le hl⟩
theorem lookN_1 {F : Mem} {a : Addr} {v : Value} (h : lookN F a 1 = some [v]) : look F a = some v := by
  simp only [lookN] at h
  split at h <;> simp at h
  rename_i u hu
  rw [hu, h]
theorem RInts.ofS {F : Mem} {v : Value} {xs : List Int} (h : (Knd.int .i64).S F v xs) : RInts F v xs := by
  rcases h with ⟨b, off, c, h1, h2, h3⟩ | h
  · refine .inl ⟨b, off, c, h1, h2, fun i x hx => ?_⟩
    obtain ⟨cs, hc, rfl⟩ := h3 i x hx
    have := lookN_1 hc
    rwa [show i * (Knd.int .i64).sz = i from Nat.mul_one i] at this
  · exact .inr h
theorem RGl.ofK {F : Mem} {cs : List Value} {xs : List Int} (h : (Knd.int .i64).slice.R F cs xs) : ∃ g, cs = [g] ∧ RGl F g xs := by
  obtain ⟨v, e, h | h⟩ := h
  · exact ⟨v, e, .inl (RInts.ofS h)⟩
  · exact ⟨v, e, .inr h⟩
theorem RItems.ofS {F : Mem} {v : Value} {xs : List Item} (h : kItem.S F v xs) : RItems F v xs := by
  rcases h with ⟨b, off, c, h1, h2, h3⟩ | h
  · refine .inl ⟨b, off, c, h1, h2, fun i x hx => ?_⟩
    obtain ⟨cs, hc, g, rfl, hg⟩ := h3 i x hx
    exact ⟨g, hc, hg⟩
  · exact .inr h
theorem RItN.ofK {F : Mem} {cs : List Value} {xs : List Item} (h : kItem.slice.R F cs xs) : ∃ g, cs = [g] ∧ RItN F g xs := by
  obtain ⟨v, e, h | h⟩ := h
  · exact ⟨v, e, .inl (RItems.ofS h)⟩
  · exact ⟨v, e, .inr h⟩
def kAsk : Knd Ask where
  sz := 4
  R F cs x := ∃ la lc aa ac, cs = [.slice la x.l.length lc, .slice aa x.ats.length ac, .int .i64 x.w, .int .i64 x.ag] ∧ RItN F (.slice la x.l.length lc) x.l ∧ RIx F aa x.ats
  len h := by obtain ⟨_, _, _, _, rfl, _⟩ := h; rfl
  le hl h := by obtain ⟨la, lc, aa, ac, e, h1, h2⟩ := h; exact ⟨la, lc, aa, ac, e, h1.le hl, h2.le hl⟩
def kAB := (Knd.int .i64).pair (Knd.int .i64)
section
variable {H : Type} {enc : TypeId × Value → H} {W : World}
theorem opens_to {α β : Type} {P : Program} {t : TypeId} {k : Knd α} {j : Knd β} {G : α → Prop} {G' : β → Prop} (h : Opens enc P W t k G) (hf : ∀ F cs x, k.R F cs x → G x → ∃ y, j.R F cs y ∧ G' y) : Opens enc P W t j G' := by
  intro fuel cs y hy hw
  obtain ⟨x, hK, hp, hG⟩ := h fuel cs y hy hw
  obtain ⟨z, h1, h2⟩ := hf _ _ _ hK hG
  exact ⟨z, h1, hp, h2⟩
theorem opI : Opens enc Try.prog W 3 (Knd.int .i64) i64ok := opens_weak (opens_int Try.underlying3) fun _ h => wf_i64 h
theorem opIs : Opens enc Try.prog W 23 (Knd.int .i64).slice (fun xs => (∀ x ∈ xs, i64ok x) ∧ xs.length * 8 ≤ 140737488351232) := opens_slice 8 Try.underlying23 (by kernel_rfl) (by kernel_rfl) (by decide) opI
theorem opItem : Opens enc Try.prog W 49 kItem (fun x => x.glyphs.length * 8 ≤ 140737488351232) :=
  opens_to (opens_struct Try.underlying49 (by kernel_rfl) (opensF_cons opI (opensF_cons opI (opensF_cons opI (opensF_cons opI (opensF_cons opI (opensF_cons (opens_bool Try.underlying4) (opensF_cons opI (opensF_cons opI (opensF_cons opI (opensF_cons opI (opensF_one opIs))))))))))))
    fun F cs p h hg => by
      obtain ⟨x1, x2, x3, x4, x5, x6, x7, x8, x9, x10, x11⟩ := p
      obtain ⟨c1, r1, rfl, rfl, c2, r2, rfl, rfl, c3, r3, rfl, rfl, c4, r4, rfl, rfl, c5, r5, rfl, rfl, c6, r6, rfl, rfl, c7, r7, rfl, rfl, c8, r8, rfl, rfl, c9, r9, rfl, rfl, c10, r10, rfl, rfl, h11⟩ := h
      obtain ⟨g, rfl, k⟩ := RGl.ofK h11
      exact ⟨⟨x1, x2, x3, x4, x5, x6, x7, x8, x9, x10, x11⟩, ⟨g, rfl, k⟩, hg.2.2.2.2.2.2.2.2.2.2.2⟩
theorem opItems : Opens enc Try.prog W 22 kItem.slice (fun xs => (∀ x ∈ xs, x.glyphs.length * 8 ≤ 140737488351232) ∧ xs.length * 104 ≤ 140737488351232) := opens_slice 104 Try.underlying22 (by kernel_rfl) (by kernel_rfl) (by decide) opItem
theorem opAsk : Opens enc Try.prog W 25 kAsk (fun x => (∀ i ∈ x.l, i.glyphs.length * 8 ≤ 140737488355328) ∧ i64ok x.w ∧ i64ok x.ag) :=
  opens_to (opens_struct Try.underlying25 (by kernel_rfl) (opensF_cons opItems (opensF_cons opIs (opensF_cons opI (opensF_one opI)))))
    fun F cs p h hg => by
      obtain ⟨x1, x2, x3, x4⟩ := p
      obtain ⟨c1, r1, rfl, h1, c2, r2, rfl, h2, c3, r3, rfl, rfl, rfl⟩ := h
      obtain ⟨g1, rfl, k1⟩ := RItN.ofK h1
      obtain ⟨g2, rfl, k2⟩ := RGl.ofK h2
      obtain ⟨la, lc, _, rfl⟩ := k1.opl
      obtain ⟨aa, ac, rfl, k3⟩ := k2.ixq
      exact ⟨⟨x1, x2, x3, x4⟩, ⟨la, lc, aa, ac, rfl, k1, k3⟩, fun i hi => Nat.le_trans (hg.1.1 i hi) (by decide), hg.2.2.1, hg.2.2.2⟩
theorem opAB : Opens enc Try.prog W 39 kAB (fun p => i64ok p.1 ∧ i64ok p.2) := opens_struct Try.underlying39 (by kernel_rfl) (opensF_cons opI (opensF_one opI))
end
theorem law3_K {F : Mem} {cs : List Value} {x : Ask} (h : kAsk.R F cs x) (hg : (∀ i ∈ x.l, i.glyphs.length * 8 ≤ 140737488355328) ∧ i64ok x.w ∧ i64ok x.ag) : C0 Try.prog 3 [.agg ⟨cs⟩] F (.bool true) := by
  obtain ⟨la, lc, aa, ac, rfl, h1, h2⟩ := h
  exact law3_C F x lc ac h1 h2 hg.1
theorem law4_K {F : Mem} {cs cs2 : List Value} {x : Ask} {p : Int × Int} (h : kAsk.R F cs x) (h2 : kAB.R F cs2 p) (hg : (∀ i ∈ x.l, i.glyphs.length * 8 ≤ 140737488355328) ∧ i64ok x.w ∧ i64ok x.ag) : C0 Try.prog 4 [.agg ⟨cs⟩, .agg ⟨cs2⟩] F (.bool true) := by
  obtain ⟨la, lc, aa, ac, rfl, h1, h3⟩ := h
  obtain ⟨A, B⟩ := p
  obtain ⟨c1, c2, rfl, rfl, rfl⟩ := h2
  exact law4_C F x A B lc ac h1 h3 hg.1
end Go.Proofs.Ytnkddjdmpnghmaa.Am
namespace Go.Proofs.Ytnkddjdmpnghmaa.Am
set_option linter.unusedSimpArgs false
set_option linter.unusedVariables false
set_option maxRecDepth 100000
set_option maxHeartbeats 4000000
open Go Go.RowKit
theorem sumL_cat (xs ys : List Int) : ∀ k, sumL (xs ++ ys) (xs.length + k) = sumL xs xs.length + sumL ys k
  | 0 => by
    have : ∀ j, j ≤ xs.length → sumL (xs ++ ys) j = sumL xs j := by
      intro j
      induction j with
      | zero => intro _; rfl
      | succ j ih =>
        intro hj
        rw [sumL, sumL, ih (by omega)]
        congr 1
        simp only [ints, List.getD_eq_getElem?_getD]
        rw [List.getElem?_append_left (by omega)]
    rw [Nat.add_zero, this _ (Nat.le_refl _), sumL]; omega
  | k + 1 => by
    rw [show xs.length + (k + 1) = (xs.length + k) + 1 from rfl, sumL, sumL, sumL_cat xs ys k]
    have : ints (xs ++ ys) (xs.length + k) = ints ys k := by
      simp only [ints, List.getD_eq_getElem?_getD]
      rw [List.getElem?_append_right (by omega), Nat.add_sub_cancel_left]
    omega
theorem walk_x {gs : List Int} {l : List Item} {fm b : Nat} {x0 : Int} (hb : b ≤ l.length) (hok : ∀ i, i < l.length → (at_ l i).ok = true) : ∀ d, d ≤ b - fm → (walkS gs ((l.drop fm).take (b - fm)) x0 d).x = x0 + (wS l (fm + d) - wS l fm) + (sumL gs (walkS gs ((l.drop fm).take (b - fm)) x0 d).k - sumL (gluL Item.width l fm d) (gluL Item.width l fm d).length)
  | 0, _ => by simp only [walkS, gluL, sumL, Nat.add_zero, List.length_nil]; omega
  | d + 1, hd => by
    have ih := walk_x (gs := gs) (fm := fm) (x0 := x0) hb hok d (by omega)
    have hk := walkS_k gs ((l.drop fm).take (b - fm)) x0 d
    have ho := hok (fm + d) (by omega)
    simp only [Item.ok, decide_eq_true_eq] at ho
    rw [walkS, at_part hb (by omega), stepS, gluL, show fm + (d + 1) = fm + d + 1 from rfl, wS]
    generalize walkS gs ((l.drop fm).take (b - fm)) x0 d = s at *
    generalize at_ l (fm + d) = x at *
    have e := sumL_cat (gluL Item.width l fm d) (if x.kind = 2 then [x.width] else []) (if x.kind = 2 then [x.width] else []).length
    rw [← List.length_append] at e
    rw [e]
    by_cases h1 : x.kind = 1
    · rw [if_pos h1, if_neg (show ¬ x.kind = 3 by omega), if_neg (show ¬ x.kind = 2 by omega)]
      dsimp only [sumL, List.length_nil]
      omega
    · rw [if_neg h1]
      by_cases h2 : x.kind = 2
      · rw [if_pos h2, if_pos h2, if_neg (show ¬ x.kind = 3 by omega)]
        have : sumL [x.width] ([x.width] : List Int).length = x.width := by simp [sumL, ints]
        rw [this]
        dsimp only [sumL]
        omega
      · rw [if_neg h2, if_neg h2, if_pos (show x.kind = 3 by omega)]
        dsimp only [sumL, List.length_nil]
        omega
theorem sum_addTo {ws s : List Int} {sg : Int} : ∀ k, k ≤ ws.length → sumL (addTo ws s sg ws.length) k = sumL ws k + sg * sumL s k
  | 0, _ => by simp [sumL]
  | k + 1, hk => by
    rw [sumL, sumL, sumL, sum_addTo k (by omega)]
    have : ints (addTo ws s sg ws.length) k = ints ws k + sg * ints s k := by
      simp only [addTo, ints, List.getD_eq_getElem?_getD]
      rw [List.getElem?_map, List.getElem?_range (by omega)]
      simp only [Option.map_some, Option.getD_some]
      rw [if_pos (by omega)]
    rw [this, Int.mul_add]
    omega
theorem sum_shares (t : Int) (xs : List Int) : ∀ k, k ≤ xs.length → sumL (shares t xs xs.length) k = flS t xs k
  | 0, _ => by rw [flS_0]; rfl
  | k + 1, hk => by
    rw [sumL, sum_shares t xs k (by omega)]
    have : ints (shares t xs xs.length) k = flS t xs (k + 1) - flS t xs k := by
      simp only [shares, ints, List.getD_eq_getElem?_getD]
      rw [List.getElem?_map, List.getElem?_range (by omega)]
      rfl
    omega
theorem gl_total {xs : List Int} {t : Int} (h : ∀ x ∈ xs, 0 ≤ x ∧ x ≤ 1073741824) (hl : xs.length ≤ 1024) (ht : inB t) (h0 : sumL xs xs.length ≠ 0) : flS t xs xs.length = t := by
  have e := gl_sumS h hl
  have hb := gl_sum h _ (Nat.le_refl _)
  rw [flS, e]
  dsimp only
  rw [floorS, if_neg (by omega), Int.mul_ediv_cancel _ h0, keepS, if_pos (show -1099511627776 ≤ t ∧ t ≤ 1099511627776 from ht)]
theorem mYZ {l : List Item} (hg : goodL l = true) {a1 b : Nat} (hb : b < l.length) : (0 ≤ mY l a1 b ∧ mY l a1 b ≤ 1099511627776) ∧ (0 ≤ mZ l a1 b ∧ mZ l a1 b ≤ 1099511627776) := by
  have hlen := good_len hg
  have hfl := fromA_le l a1 b
  have oY : ∀ x ∈ glY l a1 b, 0 ≤ x ∧ x ≤ 1073741824 := gl_mem_ok hg (f := Item.stretch) (i := fromA l a1 b) (d := b - fromA l a1 b) (by omega) okY
  have oZ : ∀ x ∈ glZ l a1 b, 0 ≤ x ∧ x ≤ 1073741824 := gl_mem_ok hg (f := Item.shrink) (i := fromA l a1 b) (d := b - fromA l a1 b) (by omega) okZ
  have eY := glY_sum l a1 b
  have eZ := glZ_sum l a1 b
  have nY := gluL_le Item.stretch l (fromA l a1 b) (b - fromA l a1 b)
  have nZ := gluL_le Item.shrink l (fromA l a1 b) (b - fromA l a1 b)
  have bY := gl_sum oY _ (Nat.le_refl _)
  have bZ := gl_sum oZ _ (Nat.le_refl _)
  have nY2 : (glY l a1 b).length ≤ b - fromA l a1 b := nY
  have nZ2 : (glZ l a1 b).length ≤ b - fromA l a1 b := nZ
  omega
/-- what the glue of a line takes more than it is wide -/
theorem glue_diff {l : List Item} (hg : goodL l = true) {a1 b : Nat} (hb : b < l.length) {w ag : Int} (hw : 1 ≤ w ∧ w ≤ 1073741824) :
    sumL (glueD l a1 b w ag).1 (glueD l a1 b w ag).1.length - sumL (glW l a1 b) (glW l a1 b).length = if 0 < w - mW l a1 b ∧ ag = 0 ∧ 0 < mY l a1 b then w - mW l a1 b else if w - mW l a1 b < 0 then -(min (-(w - mW l a1 b)) (mZ l a1 b)) else 0 := by
  have hlen := good_len hg
  have hfl := fromA_le l a1 b
  have oY : ∀ x ∈ glY l a1 b, 0 ≤ x ∧ x ≤ 1073741824 := gl_mem_ok hg (f := Item.stretch) (i := fromA l a1 b) (d := b - fromA l a1 b) (by omega) okY
  have oZ : ∀ x ∈ glZ l a1 b, 0 ≤ x ∧ x ≤ 1073741824 := gl_mem_ok hg (f := Item.shrink) (i := fromA l a1 b) (d := b - fromA l a1 b) (by omega) okZ
  have eY := glY_sum l a1 b
  have eZ := glZ_sum l a1 b
  have nY : (glY l a1 b).length ≤ 1024 := Nat.le_trans (gluL_le Item.stretch l (fromA l a1 b) (b - fromA l a1 b)) (by omega)
  have nZ : (glZ l a1 b).length ≤ 1024 := Nat.le_trans (gluL_le Item.shrink l (fromA l a1 b) (b - fromA l a1 b)) (by omega)
  have lY : (glY l a1 b).length = (glW l a1 b).length := gluL_len _ _ _ _ _
  have lZ : (glZ l a1 b).length = (glW l a1 b).length := gluL_len _ _ _ _ _
  have hm := mW_bd hg (a1 := a1) hb
  obtain ⟨hy, hz⟩ := mYZ hg (a1 := a1) hb
  unfold glueD freeD
  split
  · rename_i h
    have hin : inB (w - mW l a1 b) := by unfold inB; omega
    rw [gl_share oY nY hin (by omega)]
    show sumL (addTo _ _ _ _) (addTo _ _ _ _).length - _ = _
    rw [addTo_len, sum_addTo _ (Nat.le_refl _), ← lY]
    rw [show sumL (shares (w - mW l a1 b) (glY l a1 b) (glY l a1 b).length) (glY l a1 b).length = w - mW l a1 b from by
      rw [sum_shares _ _ _ (Nat.le_refl _)]
      exact gl_total oY nY hin (by omega)]
    omega
  · split
    · rename_i h1 h2
      rcases Int.lt_or_le 0 (mZ l a1 b) with hz0 | hz0
      · have hin : inB (min (-(w - mW l a1 b)) (mZ l a1 b)) := by unfold inB; omega
        rw [gl_share oZ nZ hin (by omega)]
        show sumL (addTo _ _ _ _) (addTo _ _ _ _).length - _ = _
        rw [addTo_len, sum_addTo _ (Nat.le_refl _), ← lZ]
        rw [show sumL (shares (min (-(w - mW l a1 b)) (mZ l a1 b)) (glZ l a1 b) (glZ l a1 b).length) (glZ l a1 b).length = min (-(w - mW l a1 b)) (mZ l a1 b) from by
          rw [sum_shares _ _ _ (Nat.le_refl _)]
          exact gl_total oZ nZ hin (by omega)]
        omega
      · rw [gl_noshare oZ nZ (by omega)]
        show sumL (glW l a1 b) (glW l a1 b).length - _ = _
        omega
    · show sumL (glW l a1 b) (glW l a1 b).length - _ = _
      omega
/-- how wide a line is, and whether it is too wide -/
theorem one_width {l : List Item} (hg : goodL l = true) {a1 b : Nat} (hb : b < l.length) {w ag : Int} (hw : 1 ≤ w ∧ w ≤ 1073741824) :
    (oneD l a1 b w ag).width = beginD (w - mW l a1 b) ag + mW l a1 b + (if 0 < w - mW l a1 b ∧ ag = 0 ∧ 0 < mY l a1 b then w - mW l a1 b else if w - mW l a1 b < 0 then -(min (-(w - mW l a1 b)) (mZ l a1 b)) else 0) := by
  have hfl := fromA_le l a1 b
  have hpl := part_len (l := l) (f := fromA l a1 b) (b := b) (by omega)
  have hx := walk_x (gs := (glueD l a1 b w ag).1) (fm := fromA l a1 b) (b := b) (x0 := beginD (w - mW l a1 b) ag) (by omega) (fun i hi => good_ok hg hi) (b - fromA l a1 b) (Nat.le_refl _)
  have hk := walkS_k (glueD l a1 b w ag).1 ((l.drop (fromA l a1 b)).take (b - fromA l a1 b)) (beginD (w - mW l a1 b) ag) (b - fromA l a1 b)
  rw [gluL_part (by omega) (Nat.le_refl _)] at hk
  rw [hk] at hx
  have e1 : (gluL Item.width l (fromA l a1 b) (b - fromA l a1 b)).length = (glueD l a1 b w ag).1.length := by rw [glueD_len]; rfl
  have hd := glue_diff hg (a1 := a1) hb (ag := ag) hw
  have e2 : sumL (glW l a1 b) (glW l a1 b).length = sumL (gluL Item.width l (fromA l a1 b) (b - fromA l a1 b)) (glueD l a1 b w ag).1.length := by rw [← e1]; rfl
  rw [e2] at hd
  rw [e1] at hx
  rw [show fromA l a1 b + (b - fromA l a1 b) = b from by omega] at hx
  unfold oneD lineS
  rw [hpl]
  unfold mW at hd hx ⊢
  by_cases h3 : (at_ l b).kind = 3
  · simp only [if_pos h3] at hd hx ⊢
    omega
  · simp only [if_neg h3] at hd hx ⊢
    omega
theorem one_over {l : List Item} (hg : goodL l = true) {a1 b : Nat} (hb : b < l.length) {w ag : Int} : (oneD l a1 b w ag).over = decide (mZ l a1 b < -(w - mW l a1 b)) := by
  obtain ⟨hy, hz⟩ := mYZ hg (a1 := a1) hb
  have e : (oneD l a1 b w ag).over = (glueD l a1 b w ag).2 := by
    unfold oneD lineS
    dsimp only
    split <;> rfl
  rw [e]
  unfold glueD freeD
  split
  · exact (decide_eq_false (by omega)).symm
  · split
    · rfl
    · exact (decide_eq_false (by omega)).symm
end Go.Proofs.Ytnkddjdmpnghmaa.Am
namespace Go.Proofs.Ytnkddjdmpnghmaa.Am
set_option linter.unusedSimpArgs false
set_option linter.unusedVariables false
open Go Go.RowKit
section
variable {X : Cx} {F F0 : Mem} {L : Slots} {K K0 : Own} {s : List SI} {l : List Oper} {b : Nat} {D : List Nat} {p : List (Nat × Bool)} {listed : Array Bool}
theorem Go1.append0 {P : Program} {N : Nat} {o : Oper} {Θ : Tab} {ty ty' el : TypeId} {sx x : Operand} {d n c u : Nat} {ti ti' tj : Ty} {xv : Value} {Φ : Mem → Slots → Own → Prop} (hk : Φ F ((d, .slice (some ⟨u, 0, some 0⟩) n c) :: L) K)
    (ho : o.op = .call ⟨.builtin .append, #[sx, x], #[ty, ty']⟩) (hd : o.dst = some d) (hN : d < N) (hθ : tabOk P Θ = true)
    (hi : Θ.lookup ty = some ti) (hki : ti.k = .slice el) (hi' : Θ.lookup ty' = some ti') (hk' : slB ti'.k = true) (hj : Θ.lookup el = some tj)
    (hs : evO L sx = some (.slice (some ⟨u, 0, some 0⟩) n c)) (hx : evO L x = some xv) (happ : App P F K tj.size xv 0 []) (hnc : n ≤ c) : Go1 P N D F L K o Φ := by
  intro ι a w hF hS
  have tye := tab_ty hθ hj
  obtain ⟨dd, hdd, hkd⟩ := (tab_ty hθ hi).und
  rw [hki] at hkd
  cases dd <;> try (simp [kindB] at hkd; done)
  simp only [kindB, beq_iff_eq] at hkd
  subst hkd
  rename_i el
  obtain ⟨d', hdd', hkd'⟩ := (tab_ty hθ hi').und
  have hd' : ∀ k, d' ≠ .int k := by
    intro k e
    subst e
    cases hq : ti'.k <;> rw [hq] at hk' hkd' <;> first | (simp [slB] at hk'; done) | simp [kindB] at hkd'
  have hlen := happ.lenOf ι w
  have hc0 := happ.cells ι w hS
  have hrun := run_append_in (ty := o.type) (a := ⟨ι u, 0, none⟩) (n := n) (c := c) (xv := cV ι xv) (w' := w) hdd hdd' hd' (tye.run_size w) hlen hc0 (by omega) (by simp [storeCells])
  refine ⟨ι, w, cV ι (.slice (some ⟨u, 0, some 0⟩) n c), F, _, K, .inl ?_, by rw [hd]; exact hF.put hN _, hS, fun _ _ => rfl, hk⟩
  obtain ⟨dst, op, type, pos, after, guard⟩ := o
  simp only at ho hrun
  subst ho
  have e1 := hF.ev hs
  have e2 := hF.ev hx
  simp only [cV_slice, cA_own] at e1
  simp only [execOp, resolve, Sem.run_bind, Sem.run_pure, Result.andThen_ok, invoke, builtin]
  simp only [List.map_toArray, List.map_cons, List.map_nil, e1, e2, hrun, Result.andThen_ok, Sem.run_pure, cV_slice, cA_own, Nat.add_zero]
theorem ntK_del {t u : Nat} {K : Own} (h : ntK t K = true) : ntK t (delK u K) = true := by
  unfold ntK at *
  exact List.all_eq_true.2 fun x hx => List.all_eq_true.1 h x (List.mem_filter.1 hx).1
theorem KSub_del {u : Nat} {r : Row} {K : Own} (hnd : (K.map Prod.fst).Nodup) (hr : K.lookup u = some r) : KSub ((u, r) :: delK u K) K := by
  refine KSub.of_all ?_ ?_
  · simp only [List.map_cons, List.nodup_cons]
    refine ⟨fun hm => ?_, (List.Sublist.map _ List.filter_sublist).nodup hnd⟩
    obtain ⟨y, hy, e⟩ := List.mem_map.1 hm
    have := (List.mem_filter.1 hy).2
    simp only [bne_iff_ne, ne_eq] at this
    exact this e
  · intro y hy
    rcases List.mem_cons.1 hy with rfl | hy
    · exact hr
    · exact (KSub.refl hnd).mem y (List.mem_filter.1 hy).1
/-- a row gets another tag; what spoke of it speaks of nothing any more -/
theorem JD.retagU {d t u n c : Nat} {r : Row} (h : JD X l b F0 K0 D p listed s F ((d, .slice (some ⟨t, 0, some 0⟩) n c) :: L) ((t, r) :: delK u K)) (hr : K.lookup u = some r) (hL : ntL t L = true) (hK : ntK t K = true) (hru : (r.flat || r.cs.all (nt1 t)) = true) (hD : D.contains t = false) :
    JD X l b F0 K0 D p listed s F ((d, .slice (some ⟨u, 0, some 0⟩) n c) :: L) K := by
  intro hp hok ι0 ι a w hF hS hag hS0
  have hS1 := (hS.weak (KSub_del (tags_nodup hS) hr)).retag (ntK_del hK) hru
  have hagree : ∀ v ∈ D, upd ι t (ι u) v = ι0 v := fun v hv => (upd_ne ι (fun e => by subst e; simp at hD; exact hD hv)).trans (hag v hv)
  refine h hp hok ι0 (upd ι t (ι u)) a w ?_ hS1 hagree hS0
  refine ⟨hF.size, hF.defers, fun s v hv => ?_⟩
  rw [List.lookup_cons] at hv
  split at hv
  · rename_i e
    have e1 : s = d := by simpa using e
    subst e1
    simp only [Option.some.injEq] at hv
    subst hv
    have := hF.slot s (.slice (some ⟨u, 0, some 0⟩) n c) (by simp [List.lookup_cons])
    simpa [upd_eq] using this
  · rename_i e
    have h1 := hF.slot s v (by rw [List.lookup_cons, e]; exact hv)
    rw [cV_nt (fun v hv => upd_ne ι hv) (List.all_eq_true.1 hL _ (lookup_mem hv))]
    exact h1
theorem JD.flat {u : Nat} {r : Row} (hp : ∀ v ∈ r.cs, plain1 v = true) (h : JD X l b F0 K0 D p listed s F L ((u, { r with flat := true }) :: K)) : JD X l b F0 K0 D p listed s F L ((u, r) :: K) := fun h1 h2 ι0 ι a w hF hS hag hS0 => h h1 h2 ι0 ι a w hF (hS.flat hp) hag hS0
/-- told elements, any number, appended to an own row of nothing -/
theorem dapA0 {i : Nat} {o : Oper} {Θ : Tab} {ty ty' el : TypeId} {sx x : Operand} {d c m : Nat} {ti ti' tj : Ty} {xv : Value} {news : List Value} {r : Row} (sz t u : Nat) (happ0 : App X.P F K sz xv m news) (hpn : ∀ v ∈ news, plain1 v = true)
    (hk : ∀ cap, m ≤ cap → cap ≤ 9223372036854775807 → JD X l b F0 K0 D p (listed.setIfInBounds i true) s F ((d, .slice (some ⟨t, 0, some 0⟩) m cap) :: L) ((t, { elem := el, cs := news, room := cap * sz, fz := r.fz, flat := true }) :: delK u K))
    (ho' : l[i]? = some o := by rfl) (hg : o.guard = none := by rfl) (ho : o.op = .call ⟨.builtin .append, #[sx, x], #[ty, ty']⟩ := by rfl) (hd : o.dst = some d := by rfl) (hN : d < X.N := by exact Nat.le_of_ble_eq_true rfl) (hθ : tabOk X.P Θ = true := by exact hT)
    (hi : Θ.lookup ty = some ti := by rfl) (hki : ti.k = .slice el := by rfl) (hi' : Θ.lookup ty' = some ti' := by rfl) (hk' : slB ti'.k = true := by rfl) (hj : Θ.lookup el = some tj := by rfl) (hz0 : tj.zero.length = tj.size := by rfl) (hsz : tj.size = sz := by rfl) (hz1 : 0 < tj.size := by exact Nat.le_of_ble_eq_true rfl)
    (hs : evO L sx = some (.slice (some ⟨u, 0, some 0⟩) 0 c) := by rfl) (hx : evO L x = some xv := by rfl) (hr : K.lookup u = some r := by rfl) (hcs : r.cs = [] := by rfl)
    (hroom : r.room = c * sz := by rfl) (hel : r.elem = el := by rfl) (hcm : c ≤ 9223372036854775807 := by first | exact Nat.le_of_ble_eq_true rfl | omega)
    (h63 : m ≤ 9223372036854775807 := by omega) (hby : m * tj.bytes ≤ 140737488355328 := by (dsimp only; omega))
    (hL : ntL t L = true := by rfl) (hK : ntK t K = true := by rfl) (hD : D.contains t = false := by rfl)
    (hkp : ∀ cap, Kept b F0 K0 (listed.setIfInBounds i true) F ((t, { elem := el, cs := r.cs ++ news, room := cap * tj.size, fz := r.fz, flat := r.flat }) :: delK u K) := by intro cap; first | exact Kept.all | exact Kept.k0 | exact Kept.kY | exact Kept.kYY | exact Kept.kY3)
    (hkp0 : Kept b F0 K0 (listed.setIfInBounds i true) F K := by first | exact Kept.all | exact Kept.k0 | exact Kept.kY | exact Kept.kYY | exact Kept.kY3) (hrf : r.flat = false := by rfl) (hi9 : i < 5000 := by exact Nat.le_of_ble_eq_true rfl) : JD X l b F0 K0 D ((i, false) :: p) listed s F L K := by
  rcases Nat.eq_zero_or_pos m with hz | hz
  · subst hz
    have hnw : news = [] := List.eq_nil_of_length_eq_zero (by rw [happ0.len, Nat.zero_mul])
    subst hnw
    refine JD.op hi9 ho' hg (Go1.append0 (n := 0) (c := c) (u := u) ⟨hkp0, ?_⟩ ho hd hN hθ hi hki hi' hk' hj hs hx (by rw [hsz]; exact happ0) (Nat.zero_le _))
    refine JD.retagU ?_ hr hL hK (by rw [hcs]; simp) hD
    refine JD.flat (fun v hv => by rw [hcs] at hv; cases hv) ?_
    have h1 := hk c (Nat.zero_le _) hcm
    rw [← hel, ← hcs, ← hroom] at h1
    exact h1
  · have hall : news.all plain1 = true := List.all_eq_true.2 hpn
    have hnn : ∀ t, news.all (nt1 t) = true := fun t => List.all_eq_true.2 fun v hv => nt1_plain t (hpn v hv)
    refine dapO (m := m) (news := news) t (fun cap h1 h2 => ?_) ho' hg ho hd hN hθ hi hki hi' hk' hj hz0 hz1 hs hx hr (by rw [hsz]; exact happ0) (by rw [hsz]; exact hroom) hel (by rw [hcs]; simp) (Nat.zero_le _) hcm hz (by omega) (by rw [Nat.zero_add]; exact hby) (fun _ => hall) hL hK (hnn t) hD hkp hi9
    refine JD.flat (fun v hv => by simp only [hcs, List.nil_append] at hv; exact hpn v hv) ?_
    have := hk cap (by omega) h2
    simp only [hcs, List.nil_append, Nat.zero_add, hsz]
    exact this
end
end Go.Proofs.Ytnkddjdmpnghmaa.Am
namespace Go.Proofs.Ytnkddjdmpnghmaa.Am
set_option linter.unusedSimpArgs false
set_option linter.unusedVariables false
set_option maxRecDepth 100000
set_option maxHeartbeats 4000000
open Go Go.RowKit
theorem setD_cases (l : List Item) (ats : List Int) (w ag : Int) : (setD l ats w ag = (linesN l ats w ag ats.length, 0) ∧ goodL l = true ∧ mayB w ag = true ∧ 0 < ats.length ∧ ints ats (ats.length - 1) = (l.length : Int) - 1 ∧ ∀ j, j < ats.length → lineB l (prevA ats j) (ints ats j) = true) ∨ ((setD l ats w ag).1 = [] ∧ ¬ (setD l ats w ag).2 = 0) := by
  unfold setD
  split
  · exact .inr ⟨rfl, by decide⟩
  · rename_i h
    split
    · rename_i h2
      exact .inl ⟨rfl, by simpa using h, h2.1.1, h2.1.2.1, h2.1.2.2, h2.2⟩
    · exact .inr ⟨rfl, by decide⟩
theorem linesN_get {l : List Item} {ats : List Int} {w ag : Int} {n i : Nat} (h : i < n) : (linesN l ats w ag n)[i]? = some (lnAt l ats w ag i) := by
  unfold linesN
  rw [List.getElem?_map, List.getElem?_range h]
  rfl
/-- what holds of a line that is set -/
theorem ln_facts {l : List Item} {ats : List Int} {w ag : Int} (hm : mayB w ag = true) {i : Nat} (hln : lineB l (prevA ats i) (ints ats i) = true) :
    let a1 := (prevA ats i + 1).toNat; let b := (ints ats i).toNat; let t := w - mW l a1 b
    (lnAt l ats w ag i).over = decide (mZ l a1 b < -t) ∧ (¬ mZ l a1 b < -t → (lnAt l ats w ag i).width ≤ w) ∧ (mZ l a1 b < -t → (lnAt l ats w ag i).width = mW l a1 b - mZ l a1 b) ∧ (ag = 0 → 0 < mY l a1 b → ¬ mZ l a1 b < -t → (lnAt l ats w ag i).width = w) ∧ (t ≤ 0 → ¬ mZ l a1 b < -t → (lnAt l ats w ag i).width = w) ∧ (0 < t → ag = 2 → (lnAt l ats w ag i).width = w) ∧ measD l (prevA ats i) (ints ats i) = (mW l a1 b, mY l a1 b, mZ l a1 b) := by
  obtain ⟨hg, h0, h1, h2, h3⟩ := lineB_facts hln
  simp only [mayB, decide_eq_true_eq] at hm
  have hb : (ints ats i).toNat < l.length := by omega
  have hw := one_width hg (a1 := (prevA ats i + 1).toNat) hb (ag := ag) ⟨hm.1, hm.2.1⟩
  have ho := one_over hg (a1 := (prevA ats i + 1).toNat) hb (w := w) (ag := ag)
  obtain ⟨hy, hz⟩ := mYZ hg (a1 := (prevA ats i + 1).toNat) hb
  have hmw := mW_bd hg (a1 := (prevA ats i + 1).toNat) hb
  dsimp only
  unfold lnAt
  refine ⟨ho, ?_⟩
  unfold beginD at hw
  have hms : measD l (prevA ats i) (ints ats i) = (mW l (prevA ats i + 1).toNat (ints ats i).toNat, mY l (prevA ats i + 1).toNat (ints ats i).toNat, mZ l (prevA ats i + 1).toNat (ints ats i).toNat) := by rw [measD, if_pos hln]
  generalize mW l (prevA ats i + 1).toNat (ints ats i).toNat = W at *
  generalize mY l (prevA ats i + 1).toNat (ints ats i).toNat = Y at *
  generalize mZ l (prevA ats i + 1).toNat (ints ats i).toNat = Z at *
  generalize (oneD l (prevA ats i + 1).toNat (ints ats i).toNat w ag).width = wd at *
  refine ⟨fun h => ?_, fun h => ?_, fun h4 h5 h6 => ?_, fun h4 h5 => ?_, fun h4 h5 => ?_, hms⟩
  all_goals ((repeat' split at hw) <;> omega)
theorem law5_C (F : Mem) (x : Ask) {la aa : Option Addr} (lc ac : Nat) (hL : RItN F (.slice la x.l.length lc) x.l) (hA : RIx F aa x.ats) (hgl : ∀ i ∈ x.l, i.glyphs.length * 8 ≤ 140737488355328) (hgw : i64ok x.w ∧ i64ok x.ag) : C0 Try.prog 5 [x.v la lc aa ac] F (.bool true) := by
  have h1 : PlA la := by
    obtain ⟨a, c, h, e⟩ := hL.opl
    simp only [Value.slice.injEq] at e
    rw [e.1]; exact h
  have h2 := hA.pl
  unfold Ask.v
  refine C.go hT Try.func5 Try.ntmps5 ?_
  refine sq ?_
  refine rg ?_
  refine bx (hL := by simp [ntL, ntV, nt2, argL, nt1_i, nt1_b, h1.nt, h2.nt]) ?_
  refine JL.flatU (u := 1) [] ?_ (hp := x.pl h1 h2 lc ac)
  refine st (h := O) ?_
  refine nl ?_
  iterate 2 (refine sq ?_)
  refine rg ?_
  refine st (h := sdLN) ?_
  refine cl (h := by exact fun ι hV hl => (large25_C _ x h1 h2 lc ac).ofR (arg1 (x.rV h1 h2 lc ac ι))) ?_
  refine nl ?_
  refine cB (fun c0 => ?_) (fun c0 => ?_)
  ·refine sq ?_
   refine rg ?_
   refine cl (h := by exact fun ι hV hl => wakes25_C _) ?_
   refine st (h := O) ?_
   refine nl ?_
   repeat refine J.dropF ?_
   first
     | exact rt ⟨rfl, rfl⟩
     | (exfalso; simp at *; done)
     | (exfalso; omega)
     | (exfalso; simp at *; omega)
  ·have hlen : x.l.length ≤ 120 ∧ x.ats.length ≤ 240 := by simp only [bigQ, decide_eq_false_iff_not] at c0; omega
   refine sk ?_
   refine sq ?_
   refine J.weak (L0 := [(1, _)]) (K0 := [(1, _)]) (by exact ⟨rfl, trivial⟩) (by exact ⟨rfl, rfl, trivial⟩) ?_
   refine drK 17 [1] [(1, _)] [0, 1, 4, 5, 7, 8, 9, 10, 5009] ?_
   refine dt (hv := by exact sdFA) ?_
   refine dt (hv := by exact sdL) ?_
   refine dt (hv := by exact sdFA) ?_
   refine dt (hv := by exact sdL) ?_
   refine dt (hv := by exact sdFA) ?_
   refine dt (hv := by exact sdL) ?_
   refine dt (hv := by exact sdFA) ?_
   refine dt (hv := by exact sdL) ?_
   refine JD.alt (i := 2) (j := 3) [1003, 1006, 1011, 12, 13, 14, 15, 16] [1002, 1006, 1011, 12, 13, 14, 15, 16] ?_ ?_
   ·refine jclC (hkp := by first | exact Kept.all | exact Kept.k0 | exact Kept.kY | exact Kept.kYY | exact Kept.kY3) (h := by exact fun ι hV hl => (CopyN_C _ _ x.l (hL.le hl) (by omega) hgl).ofR (arg1 (h1.rV ι _ _))) ?_
    intro u1 Y1 hQ1 hv1 hp1 hN1
    obtain ⟨hs1, hcap1, hI1⟩ := hQ1
    have hI1 := hI1 _ hN1.rows
    obtain ⟨ca, cc, hca, rfl⟩ := hI1.opl
    refine dsl (hL := by first | (simp [ntL, ntV, nt2, argL, nt1_i, nt1_b, nt1_o, nt1_p, h1.nt, h2.nt, hca.nt]; done) | (simp [ntL, ntV, nt2, argL, nt1_i, nt1_b, nt1_o, nt1_p, h1.nt, h2.nt]; done)) ?_
    refine dapA0 1 500021 18 ((hA.le hN1.le).app ac) (ivs_pl _) ?_ (hL := by simp [ntL, ntV, nt2, argL, nt1_i, nt1_b, nt1_o, nt1_p, h1.nt, h2.nt, hca.nt])
    intro cap21 hc21 hd21
    refine dclC (hkp := by first | exact Kept.all | exact Kept.k0 | exact Kept.kY | exact Kept.kYY | exact Kept.kY3) (h := by exact fun ι hV hl => (Set_C _ _ (some ⟨ι 500021, 0, none⟩) cap21 x.l x.ats x.w x.ag (hI1.le hl) (hV.intsX (t := 500021) rfl rfl (by omega)) hcap1 hgl (by omega)).ofR (argC (hca.rV ι _ _) rfl)) ?_
    intro u2 Y2 hQ2 hv2 hp2 hN2
    rcases setD_cases x.l x.ats x.w x.ag with ⟨e, hg, hm, hp, hlast, hch⟩ | ⟨e1, e2⟩
    · rw [e] at hQ2
      obtain ⟨lv, hu, hlv, hR2⟩ := hQ2
      dsimp only at hu hR2
      have hS2 := hR2 _ hN2.rows
      obtain ⟨pa, pc, hpa, e3, h63, hlr⟩ := ln_at hS2
      have hnl : (linesN x.l x.ats x.w x.ag x.ats.length).length = x.ats.length := by simp [linesN]
      rw [hnl] at e3
      subst e3
      subst hu
      iterate 5 (refine dt (hv := by exact O) ?_)
      refine dn ?_
      iterate 2 (refine sq ?_)
      refine rg ?_
      iterate 2 (refine st (h := O) ?_)
      refine nl ?_
      refine cN (fun c1 => ?_) (fun c1 => ?_)
      ·try (exact absurd rfl c1)
       all_goals
         refine sq ?_
         refine rg ?_
         iterate 4 (refine st (h := O) ?_)
         refine gD (fun g34 => ?_) (fun g34 => ?_)
         ·refine clg (h := by exact fun ι hV hl => wakes25_C _) ?_
          iterate 2 (refine st (h := O) ?_)
          refine nl ?_
          repeat refine J.dropF ?_
          first
            | exact rt ⟨rfl, rfl⟩
            | (exfalso; simp at *; done)
            | (exfalso; omega)
            | (exfalso; simp at *; omega)
         ·refine sp ?_
          iterate 2 (refine st (h := O) ?_)
          refine nl ?_
          repeat refine J.dropF ?_
          first
            | exact rt ⟨rfl, rfl⟩
            | (exfalso; simp at *; done)
            | (exfalso; omega)
            | (exfalso; simp at *; omega)
      ·try (exact absurd c1 e2)
       all_goals
         refine sk ?_
         iterate 2 (refine sq ?_)
         refine rg ?_
         iterate 2 (refine st (h := O) ?_)
         refine st (h := sdFA) ?_
         refine st (h := sdL) ?_
         iterate 2 (refine st (h := O) ?_)
         refine nl ?_
         refine cN (fun c2 => ?_) (fun c2 => ?_)
         ·exact absurd rfl c2
         ·refine sk ?_
          refine sq ?_
          refine rg ?_
          refine st (h := O) ?_
          refine nl ?_
          iterate 2 (refine sq ?_)
          refine rg ?_
          refine st (h := O) ?_
          refine nl ?_
          refine bl ?_
          refine J.loop1 (α := Nat) (fun i => i ≤ x.ats.length) (fun i => [(5, .int .i64 (prevA x.ats i)), (6, .int .i64 i)]) [(1, _), (3, _)] (fun i => []) [(500021, _), (1, _)] (fun i => x.ats.length - i) (0) (by exact ⟨rfl, rfl, trivial⟩) (by exact ⟨rfl, rfl, trivial⟩) (by exact ⟨rfl, rfl, rfl, rfl, trivial⟩) ?_ ?_
          · exact Nat.zero_le _
          ·intro i L1 K1 e1 e2 hI
           dsimp only [apV, apR, List.cons_append, List.nil_append] at e1 e2
           subst e1 e2
           iterate 2 (refine sq ?_)
           refine rg ?_
           iterate 4 (refine st (h := O) ?_)
           refine nl ?_
           refine cD (fun c3 => ?_) (fun c3 => ?_)
           ·have hil : i < x.ats.length := by omega
            have hln := hch i hil
            have hlt := lineB_facts hln
            obtain ⟨ho, f1, f2, f3, f4, f5, hms⟩ := ln_facts hm hln
            obtain ⟨lb, lo, y, yp, ypc, rfl, hy, h3, _, _⟩ := hlr i (by rw [hnl]; exact hil)
            obtain rfl : lnAt x.l x.ats x.w x.ag i = y := by rw [linesN_get hil] at hy; exact Option.some.inj hy
            obtain ⟨ab, ao, rfl, har⟩ := hA.rd (by omega)
            have q1 : look ((F.add Y1).add Y2) ⟨ab, ao + (i : Int).toNat * 1, none⟩ = some (.int .i64 (ints x.ats i)) := by
              rw [Int.toNat_natCast, Nat.mul_one]
              exact hN2.le _ _ (hN1.le _ _ (har _ _ (ints_get hil)))
            rw [show lo + i * 3 = lo + (i : Int).toNat * 3 from rfl] at h3
            have k0 : look ((F.add Y1).add Y2) ⟨lb, lo + (i : Int).toNat * 3 + 0, none⟩ = some (.int .i64 (lnAt x.l x.ats x.w x.ag i).width) := lookN_at h3 0 rfl
            have k1 : look ((F.add Y1).add Y2) ⟨lb, lo + (i : Int).toNat * 3 + 1, none⟩ = some (.bool (lnAt x.l x.ats x.w x.ag i).over) := lookN_at h3 1 rfl
            rw [ho] at k1
            have hmw := mW_bd hg (a1 := (prevA x.ats i + 1).toNat) (b := (ints x.ats i).toNat) (by omega)
            have hmz := (mYZ hg (a1 := (prevA x.ats i + 1).toNat) (b := (ints x.ats i).toNat) (by omega)).2
            have hm2 := hm
            simp only [mayB, decide_eq_true_eq] at hm2
            refine sk ?_
            refine sq ?_
            refine bl ?_
            refine sq ?_
            refine dr 17 [500021, 1] [0, 1, 3, 4, 5, 6, 7, 8, 1002, 1009, 10, 11, 12, 13, 14, 15, 16] ?_
            refine dt (hv := by exact sdFA) ?_
            refine dt (hv := by exact sdL) ?_
            refine dt (hv := by exact O) ?_
            refine dt (hv := by exact sdFA) ?_
            refine dt (hv := by exact sdL) ?_
            refine dt (hv := by exact O) ?_
            refine dt (hv := by exact (sdX (z := 1))) ?_
            refine dt (hv := by exact (by first | exact sdLG | exact sdW)) ?_
            refine dclC (hkp := by first | exact Kept.all | exact Kept.k0 | exact Kept.kY | exact Kept.kYY | exact Kept.kY3) (h := by exact fun ι hV hl => (CopyN_C _ _ x.l (((hL.le hN1.le).le hN2.le).le hl) (by omega) hgl).ofR (arg1 (h1.rV ι _ _))) ?_
            intro u3 Y3 hQ3 hv3 hp3 hN3
            obtain ⟨_, _, hI3⟩ := hQ3
            have hI3 := hI3 _ hN3.rows
            obtain ⟨cb, cd, hcb, rfl⟩ := hI3.opl
            refine dcl (hkp := by first | exact Kept.all | exact Kept.k0 | exact Kept.kY | exact Kept.kYY | exact Kept.kY3) (h := by exact fun ι hV hl => (hms ▸ Measure_C _ _ x.l (prevA x.ats i) (ints x.ats i) (hI3.le hl)).ofR (argC (hcb.rV ι _ _) rfl)) ?_
            iterate 7 (refine dt (hv := by exact O) ?_)
            refine dn ?_
            refine sq ?_
            refine rg ?_
            refine JL.dropF ?_
            refine st (h := sdFA) ?_
            refine st (h := sdL) ?_
            refine st (h := O) ?_
            refine st (h := sdS) ?_
            refine st (h := O) ?_
            refine nl ?_
            iterate 2 (refine sq ?_)
            refine J.cut1 (α := Bool) (fun q => q = false) (fun q => [(112, .bool q)]) [(1, _), (3, _), (6, _), (8, _), (10, _)] (fun q => []) [(500021, _), (1, _)] (by exact ⟨rfl, rfl, rfl, rfl, rfl, trivial⟩) (by exact ⟨rfl, rfl, rfl, rfl, trivial⟩) ?_ ?_
            ·refine dr 46 [500021, 1] [0, 1, 2, 3, 4, 5, 6, 7, 8, 9, 10, 11, 12, 13, 14, 15, 16, 17, 18, 19, 20, 21, 22, 23, 24, 25, 26, 27, 28, 29, 30, 31, 32, 33, 34, 35, 36, 37, 38, 39, 40, 41, 42, 43, 44, 45] ?_
             iterate 2 (refine dt (hv := by exact O) ?_)
             refine dt (hv := by exact (sdX (z := 3))) ?_
             refine dt (hv := by exact sdFA) ?_
             refine dt (hv := by exact sdL) ?_
             refine dt (hv := by exact O) ?_
             refine dt (hv := by exact sdN) ?_
             iterate 2 (refine dt (hv := by exact O) ?_)
             refine dt (hv := by exact sbNe) ?_
             refine dt (hv := by exact O) ?_
             refine dgB (fun g77 => ?_) (fun g77 => ?_)
             ·refine dp ?_
              iterate 6 (refine dp ?_)
              iterate 8 (refine du ?_)
              refine dp ?_
              iterate 2 (refine dt (hv := by exact O) ?_)
              iterate 6 (refine dp ?_)
              iterate 9 (refine du ?_)
              refine dp ?_
              refine dt (hv := by exact O) ?_
              refine dn ?_
              refine ck1 (_) (by exact ⟨rfl, trivial⟩) (by exact ⟨rfl, rfl, rfl, rfl, rfl, trivial⟩) (by exact ⟨rfl, rfl, rfl, rfl, trivial⟩) ?_
              first
                | rfl
                | (simp only [Bool.not_eq_true', Bool.not_eq_false', decide_eq_true_eq, decide_eq_false_iff_not] at *; omega)
                | (simp at *; done)
                | (exfalso; simp at *; omega)
                | (simp at *; omega)
             ·refine dg (hv := by exact O) ?_
              refine dg (hv := by exact O) ?_
              refine dg (hv := by exact (sdX (z := 3))) ?_
              refine dg (hv := by exact sdFA) ?_
              refine dg (hv := by exact sdL) ?_
              iterate 2 (refine dg (hv := by exact O) ?_)
              refine dgB (fun g84 => ?_) (fun g84 => ?_)
              ·refine dg (hv := by exact O) ?_
               refine dg (hv := by exact O) ?_
               refine dg (hv := by exact (sdX (z := 3))) ?_
               refine dg (hv := by exact sdFA) ?_
               refine dg (hv := by exact (by first | exact sdLG | exact sdW)) ?_
               refine dg (hv := by exact sdFA) ?_
               refine dg (hv := by exact sdL) ?_
               iterate 2 (refine dg (hv := by exact O) ?_)
               iterate 2 (refine dt (hv := by exact O) ?_)
               refine dgD (fun g95 => ?_) (fun g95 => ?_)
               ·refine dp ?_
                iterate 5 (refine dp ?_)
                iterate 9 (refine du ?_)
                refine dp ?_
                refine dt (hv := by exact O) ?_
                refine dn ?_
                refine ck1 (_) (by exact ⟨rfl, trivial⟩) (by exact ⟨rfl, rfl, rfl, rfl, rfl, trivial⟩) (by exact ⟨rfl, rfl, rfl, rfl, trivial⟩) ?_
                first
                  | rfl
                  | (simp only [Bool.not_eq_true', Bool.not_eq_false', decide_eq_true_eq, decide_eq_false_iff_not] at *; omega)
                  | (simp at *; done)
                  | (exfalso; simp at *; omega)
                  | (simp at *; omega)
               ·refine dg (hv := by exact O) ?_
                refine dg (hv := by exact O) ?_
                refine dg (hv := by exact (sdX (z := 3))) ?_
                refine dg (hv := by exact sdFA) ?_
                refine dg (hv := by exact sdL) ?_
                refine dg (hv := by exact O) ?_
                refine dgB (fun g101 => ?_) (fun g101 => ?_)
                ·refine dg (hv := by exact O) ?_
                 refine dg (hv := by exact O) ?_
                 refine dg (hv := by exact (sdX (z := 3))) ?_
                 refine dg (hv := by exact sdFA) ?_
                 refine dg (hv := by exact (by first | exact sdLG | exact sdW)) ?_
                 iterate 2 (refine dg (hv := by exact O) ?_)
                 refine dg (hv := by exact sdS) ?_
                 iterate 2 (refine dg (hv := by exact O) ?_)
                 refine dt (hv := by exact O) ?_
                 refine dn ?_
                 refine ck1 (_) (by exact ⟨rfl, trivial⟩) (by exact ⟨rfl, rfl, rfl, rfl, rfl, trivial⟩) (by exact ⟨rfl, rfl, rfl, rfl, trivial⟩) ?_
                 first
                   | rfl
                   | (simp only [Bool.not_eq_true', Bool.not_eq_false', decide_eq_true_eq, decide_eq_false_iff_not] at *; omega)
                   | (simp at *; done)
                   | (exfalso; simp at *; omega)
                   | (simp at *; omega)
                ·refine dp ?_
                 iterate 8 (refine dp ?_)
                 refine dg (hv := by exact O) ?_
                 refine dt (hv := by exact O) ?_
                 refine dn ?_
                 refine ck1 (_) (by exact ⟨rfl, trivial⟩) (by exact ⟨rfl, rfl, rfl, rfl, rfl, trivial⟩) (by exact ⟨rfl, rfl, rfl, rfl, trivial⟩) ?_
                 first
                   | rfl
                   | (simp only [Bool.not_eq_true', Bool.not_eq_false', decide_eq_true_eq, decide_eq_false_iff_not] at *; omega)
                   | (simp at *; done)
                   | (exfalso; simp at *; omega)
                   | (simp at *; omega)
              ·refine dp ?_
               iterate 7 (refine dp ?_)
               refine dg (hv := by exact O) ?_
               iterate 2 (refine dt (hv := by exact O) ?_)
               iterate 2 (refine dg (hv := by exact O) ?_)
               refine dg (hv := by exact (sdX (z := 3))) ?_
               refine dg (hv := by exact sdFA) ?_
               refine dg (hv := by exact sdL) ?_
               refine dg (hv := by exact O) ?_
               refine dgB (fun g101 => ?_) (fun g101 => ?_)
               ·refine dg (hv := by exact O) ?_
                refine dg (hv := by exact O) ?_
                refine dg (hv := by exact (sdX (z := 3))) ?_
                refine dg (hv := by exact sdFA) ?_
                refine dg (hv := by exact (by first | exact sdLG | exact sdW)) ?_
                iterate 2 (refine dg (hv := by exact O) ?_)
                refine dg (hv := by exact sdS) ?_
                iterate 2 (refine dg (hv := by exact O) ?_)
                refine dt (hv := by exact O) ?_
                refine dn ?_
                refine ck1 (_) (by exact ⟨rfl, trivial⟩) (by exact ⟨rfl, rfl, rfl, rfl, rfl, trivial⟩) (by exact ⟨rfl, rfl, rfl, rfl, trivial⟩) ?_
                first
                  | rfl
                  | (simp only [Bool.not_eq_true', Bool.not_eq_false', decide_eq_true_eq, decide_eq_false_iff_not] at *; omega)
                  | (simp at *; done)
                  | (exfalso; simp at *; omega)
                  | (simp at *; omega)
               ·refine dp ?_
                iterate 8 (refine dp ?_)
                refine dg (hv := by exact O) ?_
                refine dt (hv := by exact O) ?_
                refine dn ?_
                refine ck1 (_) (by exact ⟨rfl, trivial⟩) (by exact ⟨rfl, rfl, rfl, rfl, rfl, trivial⟩) (by exact ⟨rfl, rfl, rfl, rfl, trivial⟩) ?_
                first
                  | rfl
                  | (simp only [Bool.not_eq_true', Bool.not_eq_false', decide_eq_true_eq, decide_eq_false_iff_not] at *; omega)
                  | (simp at *; done)
                  | (exfalso; simp at *; omega)
                  | (simp at *; omega)
            ·intro q L1 K1 e1 e2 hI
             dsimp only [List.cons_append, List.nil_append] at e1 e2
             subst e1 e2
             subst hI
             refine cB (fun c4 => ?_) (fun c4 => ?_)
             ·cases c4
             ·refine sk ?_
              iterate 2 (refine sq ?_)
              refine J.cut1 (α := Bool) (fun q => q = false) (fun q => [(141, .bool q)]) [(1, _), (3, _), (6, _), (10, _)] (fun q => []) [(500021, _), (1, _)] (by exact ⟨rfl, rfl, rfl, rfl, trivial⟩) (by exact ⟨rfl, rfl, rfl, rfl, trivial⟩) ?_ ?_
              ·refine dr 29 [500021, 1] [0, 1, 2, 3, 4, 5, 6, 7, 8, 9, 10, 11, 12, 13, 14, 15, 16, 17, 18, 19, 20, 21, 22, 23, 24, 25, 26, 27, 28] ?_
               refine dt (hv := by exact sdFA) ?_
               refine dt (hv := by exact sdL) ?_
               iterate 2 (refine dt (hv := by exact O) ?_)
               refine dgD (fun g116 => ?_) (fun g116 => ?_)
               ·refine dg (hv := by exact O) ?_
                refine dg (hv := by exact O) ?_
                iterate 2 (refine dt (hv := by exact O) ?_)
                refine dgD (fun g120 => ?_) (fun g120 => ?_)
                ·refine dp ?_
                 refine dp ?_
                 iterate 2 (refine dt (hv := by exact O) ?_)
                 iterate 2 (refine dg (hv := by exact O) ?_)
                 refine dg (hv := by exact (sdX (z := 3))) ?_
                 refine dg (hv := by exact sdFA) ?_
                 refine dg (hv := by exact sdL) ?_
                 refine dg (hv := by exact O) ?_
                 iterate 2 (refine dt (hv := by exact O) ?_)
                 refine dgB (fun g132 => ?_) (fun g132 => ?_)
                 ·refine dg (hv := by exact O) ?_
                  refine dg (hv := by exact O) ?_
                  refine dg (hv := by exact (sdX (z := 3))) ?_
                  refine dg (hv := by exact sdFA) ?_
                  refine dg (hv := by exact (by first | exact sdLG | exact sdW)) ?_
                  refine dg (hv := by exact sdFA) ?_
                  refine dg (hv := by exact sdL) ?_
                  refine dg (hv := by exact O) ?_
                  refine dt (hv := by exact O) ?_
                  refine dn ?_
                  refine ck1 (_) (by exact ⟨rfl, trivial⟩) (by exact ⟨rfl, rfl, rfl, rfl, trivial⟩) (by exact ⟨rfl, rfl, rfl, rfl, trivial⟩) ?_
                  first
                    | rfl
                    | (simp only [Bool.not_eq_true', Bool.not_eq_false', decide_eq_true_eq, decide_eq_false_iff_not] at *; omega)
                    | (simp at *; done)
                    | (exfalso; simp at *; omega)
                    | (simp at *; omega)
                 ·refine dp ?_
                  iterate 7 (refine dp ?_)
                  refine dt (hv := by exact O) ?_
                  refine dn ?_
                  refine ck1 (_) (by exact ⟨rfl, trivial⟩) (by exact ⟨rfl, rfl, rfl, rfl, trivial⟩) (by exact ⟨rfl, rfl, rfl, rfl, trivial⟩) ?_
                  first
                    | rfl
                    | (simp only [Bool.not_eq_true', Bool.not_eq_false', decide_eq_true_eq, decide_eq_false_iff_not] at *; omega)
                    | (simp at *; done)
                    | (exfalso; simp at *; omega)
                    | (simp at *; omega)
                ·refine dg (hv := by exact O) ?_
                 refine dg (hv := by exact O) ?_
                 iterate 2 (refine dt (hv := by exact O) ?_)
                 refine dgD (fun g124 => ?_) (fun g124 => ?_)
                 ·refine dg (hv := by exact O) ?_
                  refine dg (hv := by exact O) ?_
                  refine dg (hv := by exact (sdX (z := 3))) ?_
                  refine dg (hv := by exact sdFA) ?_
                  refine dg (hv := by exact sdL) ?_
                  refine dg (hv := by exact O) ?_
                  iterate 2 (refine dt (hv := by exact O) ?_)
                  refine dgB (fun g132 => ?_) (fun g132 => ?_)
                  ·refine dg (hv := by exact O) ?_
                   refine dg (hv := by exact O) ?_
                   refine dg (hv := by exact (sdX (z := 3))) ?_
                   refine dg (hv := by exact sdFA) ?_
                   refine dg (hv := by exact (by first | exact sdLG | exact sdW)) ?_
                   refine dg (hv := by exact sdFA) ?_
                   refine dg (hv := by exact sdL) ?_
                   refine dg (hv := by exact O) ?_
                   refine dt (hv := by exact O) ?_
                   refine dn ?_
                   refine ck1 (_) (by exact ⟨rfl, trivial⟩) (by exact ⟨rfl, rfl, rfl, rfl, trivial⟩) (by exact ⟨rfl, rfl, rfl, rfl, trivial⟩) ?_
                   first
                     | rfl
                     | (simp only [Bool.not_eq_true', Bool.not_eq_false', decide_eq_true_eq, decide_eq_false_iff_not] at *; omega)
                     | (simp at *; done)
                     | (exfalso; simp at *; omega)
                     | (simp at *; omega)
                  ·refine dp ?_
                   iterate 7 (refine dp ?_)
                   refine dt (hv := by exact O) ?_
                   refine dn ?_
                   refine ck1 (_) (by exact ⟨rfl, trivial⟩) (by exact ⟨rfl, rfl, rfl, rfl, trivial⟩) (by exact ⟨rfl, rfl, rfl, rfl, trivial⟩) ?_
                   first
                     | rfl
                     | (simp only [Bool.not_eq_true', Bool.not_eq_false', decide_eq_true_eq, decide_eq_false_iff_not] at *; omega)
                     | (simp at *; done)
                     | (exfalso; simp at *; omega)
                     | (simp at *; omega)
                 ·refine dp ?_
                  iterate 5 (refine dp ?_)
                  iterate 2 (refine dt (hv := by exact O) ?_)
                  iterate 8 (refine dp ?_)
                  refine dt (hv := by exact O) ?_
                  refine dn ?_
                  refine ck1 (_) (by exact ⟨rfl, trivial⟩) (by exact ⟨rfl, rfl, rfl, rfl, trivial⟩) (by exact ⟨rfl, rfl, rfl, rfl, trivial⟩) ?_
                  first
                    | rfl
                    | (simp only [Bool.not_eq_true', Bool.not_eq_false', decide_eq_true_eq, decide_eq_false_iff_not] at *; omega)
                    | (simp at *; done)
                    | (exfalso; simp at *; omega)
                    | (simp at *; omega)
               ·refine dp ?_
                refine dp ?_
                iterate 2 (refine dt (hv := by exact O) ?_)
                iterate 2 (refine dg (hv := by exact O) ?_)
                iterate 2 (refine dt (hv := by exact O) ?_)
                refine dgD (fun g124 => ?_) (fun g124 => ?_)
                ·refine dg (hv := by exact O) ?_
                 refine dg (hv := by exact O) ?_
                 refine dg (hv := by exact (sdX (z := 3))) ?_
                 refine dg (hv := by exact sdFA) ?_
                 refine dg (hv := by exact sdL) ?_
                 refine dg (hv := by exact O) ?_
                 iterate 2 (refine dt (hv := by exact O) ?_)
                 refine dgB (fun g132 => ?_) (fun g132 => ?_)
                 ·refine dg (hv := by exact O) ?_
                  refine dg (hv := by exact O) ?_
                  refine dg (hv := by exact (sdX (z := 3))) ?_
                  refine dg (hv := by exact sdFA) ?_
                  refine dg (hv := by exact (by first | exact sdLG | exact sdW)) ?_
                  refine dg (hv := by exact sdFA) ?_
                  refine dg (hv := by exact sdL) ?_
                  refine dg (hv := by exact O) ?_
                  refine dt (hv := by exact O) ?_
                  refine dn ?_
                  refine ck1 (_) (by exact ⟨rfl, trivial⟩) (by exact ⟨rfl, rfl, rfl, rfl, trivial⟩) (by exact ⟨rfl, rfl, rfl, rfl, trivial⟩) ?_
                  first
                    | rfl
                    | (simp only [Bool.not_eq_true', Bool.not_eq_false', decide_eq_true_eq, decide_eq_false_iff_not] at *; omega)
                    | (simp at *; done)
                    | (exfalso; simp at *; omega)
                    | (simp at *; omega)
                 ·refine dp ?_
                  iterate 7 (refine dp ?_)
                  refine dt (hv := by exact O) ?_
                  refine dn ?_
                  refine ck1 (_) (by exact ⟨rfl, trivial⟩) (by exact ⟨rfl, rfl, rfl, rfl, trivial⟩) (by exact ⟨rfl, rfl, rfl, rfl, trivial⟩) ?_
                  first
                    | rfl
                    | (simp only [Bool.not_eq_true', Bool.not_eq_false', decide_eq_true_eq, decide_eq_false_iff_not] at *; omega)
                    | (simp at *; done)
                    | (exfalso; simp at *; omega)
                    | (simp at *; omega)
                ·refine dp ?_
                 iterate 5 (refine dp ?_)
                 iterate 2 (refine dt (hv := by exact O) ?_)
                 iterate 8 (refine dp ?_)
                 refine dt (hv := by exact O) ?_
                 refine dn ?_
                 refine ck1 (_) (by exact ⟨rfl, trivial⟩) (by exact ⟨rfl, rfl, rfl, rfl, trivial⟩) (by exact ⟨rfl, rfl, rfl, rfl, trivial⟩) ?_
                 first
                   | rfl
                   | (simp only [Bool.not_eq_true', Bool.not_eq_false', decide_eq_true_eq, decide_eq_false_iff_not] at *; omega)
                   | (simp at *; done)
                   | (exfalso; simp at *; omega)
                   | (simp at *; omega)
              ·intro q L1 K1 e1 e2 hI
               dsimp only [List.cons_append, List.nil_append] at e1 e2
               subst e1 e2
               subst hI
               refine cB (fun c5 => ?_) (fun c5 => ?_)
               ·cases c5
               ·refine sk ?_
                iterate 2 (refine sq ?_)
                refine J.cut1 (α := Bool) (fun q => q = false) (fun q => [(158, .bool q)]) [(1, _), (3, _), (6, _)] (fun q => []) [(500021, _), (1, _)] (by exact ⟨rfl, rfl, rfl, trivial⟩) (by exact ⟨rfl, rfl, rfl, rfl, trivial⟩) ?_ ?_
                ·refine dr 17 [500021, 1] [0, 1, 2, 3, 4, 5, 6, 7, 8, 9, 10, 11, 12, 13, 14, 15, 16] ?_
                 iterate 3 (refine dt (hv := by exact O) ?_)
                 refine dgD (fun g144 => ?_) (fun g144 => ?_)
                 ·refine dg (hv := by exact sdFA) ?_
                  refine dg (hv := by exact sdL) ?_
                  refine dg (hv := by exact O) ?_
                  iterate 2 (refine dt (hv := by exact O) ?_)
                  refine dgD (fun g149 => ?_) (fun g149 => ?_)
                  ·refine dg (hv := by exact O) ?_
                   refine dg (hv := by exact O) ?_
                   refine dg (hv := by exact (sdX (z := 3))) ?_
                   refine dg (hv := by exact sdFA) ?_
                   refine dg (hv := by exact (by first | exact sdLG | exact sdW)) ?_
                   refine dg (hv := by exact sdFA) ?_
                   refine dg (hv := by exact sdL) ?_
                   refine dg (hv := by exact O) ?_
                   refine dt (hv := by exact O) ?_
                   refine dn ?_
                   refine ck1 (_) (by exact ⟨rfl, trivial⟩) (by exact ⟨rfl, rfl, rfl, trivial⟩) (by exact ⟨rfl, rfl, rfl, rfl, trivial⟩) ?_
                   first
                     | rfl
                     | (simp only [Bool.not_eq_true', Bool.not_eq_false', decide_eq_true_eq, decide_eq_false_iff_not] at *; omega)
                     | (simp at *; done)
                     | (exfalso; simp at *; omega)
                     | (simp at *; omega)
                  ·refine dp ?_
                   iterate 7 (refine dp ?_)
                   refine dt (hv := by exact O) ?_
                   refine dn ?_
                   refine ck1 (_) (by exact ⟨rfl, trivial⟩) (by exact ⟨rfl, rfl, rfl, trivial⟩) (by exact ⟨rfl, rfl, rfl, rfl, trivial⟩) ?_
                   first
                     | rfl
                     | (simp only [Bool.not_eq_true', Bool.not_eq_false', decide_eq_true_eq, decide_eq_false_iff_not] at *; omega)
                     | (simp at *; done)
                     | (exfalso; simp at *; omega)
                     | (simp at *; omega)
                 ·refine dp ?_
                  iterate 2 (refine dp ?_)
                  iterate 2 (refine dt (hv := by exact O) ?_)
                  iterate 8 (refine dp ?_)
                  refine dt (hv := by exact O) ?_
                  refine dn ?_
                  refine ck1 (_) (by exact ⟨rfl, trivial⟩) (by exact ⟨rfl, rfl, rfl, trivial⟩) (by exact ⟨rfl, rfl, rfl, rfl, trivial⟩) ?_
                  first
                    | rfl
                    | (simp only [Bool.not_eq_true', Bool.not_eq_false', decide_eq_true_eq, decide_eq_false_iff_not] at *; omega)
                    | (simp at *; done)
                    | (exfalso; simp at *; omega)
                    | (simp at *; omega)
                ·intro q L1 K1 e1 e2 hI
                 dsimp only [List.cons_append, List.nil_append] at e1 e2
                 subst e1 e2
                 subst hI
                 refine cB (fun c6 => ?_) (fun c6 => ?_)
                 ·cases c6
                 ·refine sk ?_
                  refine rg ?_
                  refine st (h := sdFA) ?_
                  refine st (h := sdL) ?_
                  refine st (h := O) ?_
                  refine st (h := (sdX (z := 1))) ?_
                  refine st (h := (by first | exact sdLG | exact sdW)) ?_
                  refine st (h := O) ?_
                  refine nl ?_
                  refine bk ?_
                  refine rg ?_
                  refine st (h := O) ?_
                  refine st (h := sdA) ?_
                  refine st (h := O) ?_
                  refine nl ?_
                  refine bk1 (i + 1) (by exact ⟨rfl, rfl, trivial⟩) (by exact ⟨rfl, rfl, trivial⟩) (by exact ⟨rfl, rfl, rfl, rfl, trivial⟩) ?_ ?_
                  · omega
                  · exact hil
           ·refine ex ?_
            refine sq ?_
            refine rg ?_
            refine cl (h := by exact fun ι hV hl => wakes25_C _) ?_
            refine st (h := O) ?_
            refine nl ?_
            repeat refine J.dropF ?_
            first
              | exact rt ⟨rfl, rfl⟩
              | (exfalso; simp at *; done)
              | (exfalso; omega)
              | (exfalso; simp at *; omega)
    · obtain ⟨lv, hu, hlv, hR2⟩ := hQ2
      rw [e1] at hR2
      have hS2 := hR2 _ hN2.rows
      obtain ⟨pa, pc, hpa, e3, h63, hlr⟩ := ln_at hS2
      subst e3
      subst hu
      iterate 5 (refine dt (hv := by exact O) ?_)
      refine dn ?_
      iterate 2 (refine sq ?_)
      refine rg ?_
      iterate 2 (refine st (h := O) ?_)
      refine nl ?_
      refine cN (fun c1 => ?_) (fun c1 => ?_)
      ·try (exact absurd rfl c1)
       all_goals
         refine sq ?_
         refine rg ?_
         iterate 4 (refine st (h := O) ?_)
         refine gD (fun g34 => ?_) (fun g34 => ?_)
         ·refine clg (h := by exact fun ι hV hl => wakes25_C _) ?_
          iterate 2 (refine st (h := O) ?_)
          refine nl ?_
          repeat refine J.dropF ?_
          first
            | exact rt ⟨rfl, rfl⟩
            | (exfalso; simp at *; done)
            | (exfalso; omega)
            | (exfalso; simp at *; omega)
         ·refine sp ?_
          iterate 2 (refine st (h := O) ?_)
          refine nl ?_
          repeat refine J.dropF ?_
          first
            | exact rt ⟨rfl, rfl⟩
            | (exfalso; simp at *; done)
            | (exfalso; omega)
            | (exfalso; simp at *; omega)
      ·try (exact absurd c1 e2)
       all_goals
         refine sk ?_
         iterate 2 (refine sq ?_)
         refine rg ?_
         iterate 2 (refine st (h := O) ?_)
         refine st (h := sdFA) ?_
         refine st (h := sdL) ?_
         iterate 2 (refine st (h := O) ?_)
         refine nl ?_
         refine cN (fun c2 => ?_) (fun c2 => ?_)
         ·exact absurd rfl c2
         ·refine sk ?_
          refine sq ?_
          refine rg ?_
          refine st (h := O) ?_
          refine nl ?_
          iterate 2 (refine sq ?_)
          refine rg ?_
          refine st (h := O) ?_
          refine nl ?_
          refine bl ?_
          refine J.loop1 (α := Nat) (fun i => i ≤ x.ats.length) (fun i => [(5, .int .i64 (prevA x.ats i)), (6, .int .i64 i)]) [(1, _), (3, _)] (fun i => []) [(500021, _), (1, _)] (fun i => x.ats.length - i) (0) (by exact ⟨rfl, rfl, trivial⟩) (by exact ⟨rfl, rfl, trivial⟩) (by exact ⟨rfl, rfl, rfl, rfl, trivial⟩) ?_ ?_
          · exact Nat.zero_le _
          ·intro i L1 K1 e1 e2 hI
           dsimp only [apV, apR, List.cons_append, List.nil_append] at e1 e2
           subst e1 e2
           iterate 2 (refine sq ?_)
           refine rg ?_
           iterate 4 (refine st (h := O) ?_)
           refine nl ?_
           refine cD (fun c3 => ?_) (fun c3 => ?_)
           ·have hil : i < x.ats.length := by omega
            have hln := hch i hil
            have hlt := lineB_facts hln
            obtain ⟨ho, f1, f2, f3, f4, f5, hms⟩ := ln_facts hm hln
            obtain ⟨lb, lo, y, yp, ypc, rfl, hy, h3, _, _⟩ := hlr i (by rw [hnl]; exact hil)
            obtain rfl : lnAt x.l x.ats x.w x.ag i = y := by rw [linesN_get hil] at hy; exact Option.some.inj hy
            obtain ⟨ab, ao, rfl, har⟩ := hA.rd (by omega)
            have q1 : look ((F.add Y1).add Y2) ⟨ab, ao + (i : Int).toNat * 1, none⟩ = some (.int .i64 (ints x.ats i)) := by
              rw [Int.toNat_natCast, Nat.mul_one]
              exact hN2.le _ _ (hN1.le _ _ (har _ _ (ints_get hil)))
            rw [show lo + i * 3 = lo + (i : Int).toNat * 3 from rfl] at h3
            have k0 : look ((F.add Y1).add Y2) ⟨lb, lo + (i : Int).toNat * 3 + 0, none⟩ = some (.int .i64 (lnAt x.l x.ats x.w x.ag i).width) := lookN_at h3 0 rfl
            have k1 : look ((F.add Y1).add Y2) ⟨lb, lo + (i : Int).toNat * 3 + 1, none⟩ = some (.bool (lnAt x.l x.ats x.w x.ag i).over) := lookN_at h3 1 rfl
            rw [ho] at k1
            have hmw := mW_bd hg (a1 := (prevA x.ats i + 1).toNat) (b := (ints x.ats i).toNat) (by omega)
            have hmz := (mYZ hg (a1 := (prevA x.ats i + 1).toNat) (b := (ints x.ats i).toNat) (by omega)).2
            have hm2 := hm
            simp only [mayB, decide_eq_true_eq] at hm2
            refine sk ?_
            refine sq ?_
            refine bl ?_
            refine sq ?_
            refine dr 17 [500021, 1] [0, 1, 3, 4, 5, 6, 7, 8, 1002, 1009, 10, 11, 12, 13, 14, 15, 16] ?_
            refine dt (hv := by exact sdFA) ?_
            refine dt (hv := by exact sdL) ?_
            refine dt (hv := by exact O) ?_
            refine dt (hv := by exact sdFA) ?_
            refine dt (hv := by exact sdL) ?_
            refine dt (hv := by exact O) ?_
            refine dt (hv := by exact (sdX (z := 1))) ?_
            refine dt (hv := by exact (by first | exact sdLG | exact sdW)) ?_
            refine dclC (hkp := by first | exact Kept.all | exact Kept.k0 | exact Kept.kY | exact Kept.kYY | exact Kept.kY3) (h := by exact fun ι hV hl => (CopyN_C _ _ x.l (((hL.le hN1.le).le hN2.le).le hl) (by omega) hgl).ofR (arg1 (h1.rV ι _ _))) ?_
            intro u3 Y3 hQ3 hv3 hp3 hN3
            obtain ⟨_, _, hI3⟩ := hQ3
            have hI3 := hI3 _ hN3.rows
            obtain ⟨cb, cd, hcb, rfl⟩ := hI3.opl
            refine dcl (hkp := by first | exact Kept.all | exact Kept.k0 | exact Kept.kY | exact Kept.kYY | exact Kept.kY3) (h := by exact fun ι hV hl => (hms ▸ Measure_C _ _ x.l (prevA x.ats i) (ints x.ats i) (hI3.le hl)).ofR (argC (hcb.rV ι _ _) rfl)) ?_
            iterate 7 (refine dt (hv := by exact O) ?_)
            refine dn ?_
            refine sq ?_
            refine rg ?_
            refine JL.dropF ?_
            refine st (h := sdFA) ?_
            refine st (h := sdL) ?_
            refine st (h := O) ?_
            refine st (h := sdS) ?_
            refine st (h := O) ?_
            refine nl ?_
            iterate 2 (refine sq ?_)
            refine J.cut1 (α := Bool) (fun q => q = false) (fun q => [(112, .bool q)]) [(1, _), (3, _), (6, _), (8, _), (10, _)] (fun q => []) [(500021, _), (1, _)] (by exact ⟨rfl, rfl, rfl, rfl, rfl, trivial⟩) (by exact ⟨rfl, rfl, rfl, rfl, trivial⟩) ?_ ?_
            ·refine dr 46 [500021, 1] [0, 1, 2, 3, 4, 5, 6, 7, 8, 9, 10, 11, 12, 13, 14, 15, 16, 17, 18, 19, 20, 21, 22, 23, 24, 25, 26, 27, 28, 29, 30, 31, 32, 33, 34, 35, 36, 37, 38, 39, 40, 41, 42, 43, 44, 45] ?_
             iterate 2 (refine dt (hv := by exact O) ?_)
             refine dt (hv := by exact (sdX (z := 3))) ?_
             refine dt (hv := by exact sdFA) ?_
             refine dt (hv := by exact sdL) ?_
             refine dt (hv := by exact O) ?_
             refine dt (hv := by exact sdN) ?_
             iterate 2 (refine dt (hv := by exact O) ?_)
             refine dt (hv := by exact sbNe) ?_
             refine dt (hv := by exact O) ?_
             refine dgB (fun g77 => ?_) (fun g77 => ?_)
             ·refine dp ?_
              iterate 6 (refine dp ?_)
              iterate 8 (refine du ?_)
              refine dp ?_
              iterate 2 (refine dt (hv := by exact O) ?_)
              iterate 6 (refine dp ?_)
              iterate 9 (refine du ?_)
              refine dp ?_
              refine dt (hv := by exact O) ?_
              refine dn ?_
              refine ck1 (_) (by exact ⟨rfl, trivial⟩) (by exact ⟨rfl, rfl, rfl, rfl, rfl, trivial⟩) (by exact ⟨rfl, rfl, rfl, rfl, trivial⟩) ?_
              first
                | rfl
                | (simp only [Bool.not_eq_true', Bool.not_eq_false', decide_eq_true_eq, decide_eq_false_iff_not] at *; omega)
                | (simp at *; done)
                | (exfalso; simp at *; omega)
                | (simp at *; omega)
             ·refine dg (hv := by exact O) ?_
              refine dg (hv := by exact O) ?_
              refine dg (hv := by exact (sdX (z := 3))) ?_
              refine dg (hv := by exact sdFA) ?_
              refine dg (hv := by exact sdL) ?_
              iterate 2 (refine dg (hv := by exact O) ?_)
              refine dgB (fun g84 => ?_) (fun g84 => ?_)
              ·refine dg (hv := by exact O) ?_
               refine dg (hv := by exact O) ?_
               refine dg (hv := by exact (sdX (z := 3))) ?_
               refine dg (hv := by exact sdFA) ?_
               refine dg (hv := by exact (by first | exact sdLG | exact sdW)) ?_
               refine dg (hv := by exact sdFA) ?_
               refine dg (hv := by exact sdL) ?_
               iterate 2 (refine dg (hv := by exact O) ?_)
               iterate 2 (refine dt (hv := by exact O) ?_)
               refine dgD (fun g95 => ?_) (fun g95 => ?_)
               ·refine dp ?_
                iterate 5 (refine dp ?_)
                iterate 9 (refine du ?_)
                refine dp ?_
                refine dt (hv := by exact O) ?_
                refine dn ?_
                refine ck1 (_) (by exact ⟨rfl, trivial⟩) (by exact ⟨rfl, rfl, rfl, rfl, rfl, trivial⟩) (by exact ⟨rfl, rfl, rfl, rfl, trivial⟩) ?_
                first
                  | rfl
                  | (simp only [Bool.not_eq_true', Bool.not_eq_false', decide_eq_true_eq, decide_eq_false_iff_not] at *; omega)
                  | (simp at *; done)
                  | (exfalso; simp at *; omega)
                  | (simp at *; omega)
               ·refine dg (hv := by exact O) ?_
                refine dg (hv := by exact O) ?_
                refine dg (hv := by exact (sdX (z := 3))) ?_
                refine dg (hv := by exact sdFA) ?_
                refine dg (hv := by exact sdL) ?_
                refine dg (hv := by exact O) ?_
                refine dgB (fun g101 => ?_) (fun g101 => ?_)
                ·refine dg (hv := by exact O) ?_
                 refine dg (hv := by exact O) ?_
                 refine dg (hv := by exact (sdX (z := 3))) ?_
                 refine dg (hv := by exact sdFA) ?_
                 refine dg (hv := by exact (by first | exact sdLG | exact sdW)) ?_
                 iterate 2 (refine dg (hv := by exact O) ?_)
                 refine dg (hv := by exact sdS) ?_
                 iterate 2 (refine dg (hv := by exact O) ?_)
                 refine dt (hv := by exact O) ?_
                 refine dn ?_
                 refine ck1 (_) (by exact ⟨rfl, trivial⟩) (by exact ⟨rfl, rfl, rfl, rfl, rfl, trivial⟩) (by exact ⟨rfl, rfl, rfl, rfl, trivial⟩) ?_
                 first
                   | rfl
                   | (simp only [Bool.not_eq_true', Bool.not_eq_false', decide_eq_true_eq, decide_eq_false_iff_not] at *; omega)
                   | (simp at *; done)
                   | (exfalso; simp at *; omega)
                   | (simp at *; omega)
                ·refine dp ?_
                 iterate 8 (refine dp ?_)
                 refine dg (hv := by exact O) ?_
                 refine dt (hv := by exact O) ?_
                 refine dn ?_
                 refine ck1 (_) (by exact ⟨rfl, trivial⟩) (by exact ⟨rfl, rfl, rfl, rfl, rfl, trivial⟩) (by exact ⟨rfl, rfl, rfl, rfl, trivial⟩) ?_
                 first
                   | rfl
                   | (simp only [Bool.not_eq_true', Bool.not_eq_false', decide_eq_true_eq, decide_eq_false_iff_not] at *; omega)
                   | (simp at *; done)
                   | (exfalso; simp at *; omega)
                   | (simp at *; omega)
              ·refine dp ?_
               iterate 7 (refine dp ?_)
               refine dg (hv := by exact O) ?_
               iterate 2 (refine dt (hv := by exact O) ?_)
               iterate 2 (refine dg (hv := by exact O) ?_)
               refine dg (hv := by exact (sdX (z := 3))) ?_
               refine dg (hv := by exact sdFA) ?_
               refine dg (hv := by exact sdL) ?_
               refine dg (hv := by exact O) ?_
               refine dgB (fun g101 => ?_) (fun g101 => ?_)
               ·refine dg (hv := by exact O) ?_
                refine dg (hv := by exact O) ?_
                refine dg (hv := by exact (sdX (z := 3))) ?_
                refine dg (hv := by exact sdFA) ?_
                refine dg (hv := by exact (by first | exact sdLG | exact sdW)) ?_
                iterate 2 (refine dg (hv := by exact O) ?_)
                refine dg (hv := by exact sdS) ?_
                iterate 2 (refine dg (hv := by exact O) ?_)
                refine dt (hv := by exact O) ?_
                refine dn ?_
                refine ck1 (_) (by exact ⟨rfl, trivial⟩) (by exact ⟨rfl, rfl, rfl, rfl, rfl, trivial⟩) (by exact ⟨rfl, rfl, rfl, rfl, trivial⟩) ?_
                first
                  | rfl
                  | (simp only [Bool.not_eq_true', Bool.not_eq_false', decide_eq_true_eq, decide_eq_false_iff_not] at *; omega)
                  | (simp at *; done)
                  | (exfalso; simp at *; omega)
                  | (simp at *; omega)
               ·refine dp ?_
                iterate 8 (refine dp ?_)
                refine dg (hv := by exact O) ?_
                refine dt (hv := by exact O) ?_
                refine dn ?_
                refine ck1 (_) (by exact ⟨rfl, trivial⟩) (by exact ⟨rfl, rfl, rfl, rfl, rfl, trivial⟩) (by exact ⟨rfl, rfl, rfl, rfl, trivial⟩) ?_
                first
                  | rfl
                  | (simp only [Bool.not_eq_true', Bool.not_eq_false', decide_eq_true_eq, decide_eq_false_iff_not] at *; omega)
                  | (simp at *; done)
                  | (exfalso; simp at *; omega)
                  | (simp at *; omega)
            ·intro q L1 K1 e1 e2 hI
             dsimp only [List.cons_append, List.nil_append] at e1 e2
             subst e1 e2
             subst hI
             refine cB (fun c4 => ?_) (fun c4 => ?_)
             ·cases c4
             ·refine sk ?_
              iterate 2 (refine sq ?_)
              refine J.cut1 (α := Bool) (fun q => q = false) (fun q => [(141, .bool q)]) [(1, _), (3, _), (6, _), (10, _)] (fun q => []) [(500021, _), (1, _)] (by exact ⟨rfl, rfl, rfl, rfl, trivial⟩) (by exact ⟨rfl, rfl, rfl, rfl, trivial⟩) ?_ ?_
              ·refine dr 29 [500021, 1] [0, 1, 2, 3, 4, 5, 6, 7, 8, 9, 10, 11, 12, 13, 14, 15, 16, 17, 18, 19, 20, 21, 22, 23, 24, 25, 26, 27, 28] ?_
               refine dt (hv := by exact sdFA) ?_
               refine dt (hv := by exact sdL) ?_
               iterate 2 (refine dt (hv := by exact O) ?_)
               refine dgD (fun g116 => ?_) (fun g116 => ?_)
               ·refine dg (hv := by exact O) ?_
                refine dg (hv := by exact O) ?_
                iterate 2 (refine dt (hv := by exact O) ?_)
                refine dgD (fun g120 => ?_) (fun g120 => ?_)
                ·refine dp ?_
                 refine dp ?_
                 iterate 2 (refine dt (hv := by exact O) ?_)
                 iterate 2 (refine dg (hv := by exact O) ?_)
                 refine dg (hv := by exact (sdX (z := 3))) ?_
                 refine dg (hv := by exact sdFA) ?_
                 refine dg (hv := by exact sdL) ?_
                 refine dg (hv := by exact O) ?_
                 iterate 2 (refine dt (hv := by exact O) ?_)
                 refine dgB (fun g132 => ?_) (fun g132 => ?_)
                 ·refine dg (hv := by exact O) ?_
                  refine dg (hv := by exact O) ?_
                  refine dg (hv := by exact (sdX (z := 3))) ?_
                  refine dg (hv := by exact sdFA) ?_
                  refine dg (hv := by exact (by first | exact sdLG | exact sdW)) ?_
                  refine dg (hv := by exact sdFA) ?_
                  refine dg (hv := by exact sdL) ?_
                  refine dg (hv := by exact O) ?_
                  refine dt (hv := by exact O) ?_
                  refine dn ?_
                  refine ck1 (_) (by exact ⟨rfl, trivial⟩) (by exact ⟨rfl, rfl, rfl, rfl, trivial⟩) (by exact ⟨rfl, rfl, rfl, rfl, trivial⟩) ?_
                  first
                    | rfl
                    | (simp only [Bool.not_eq_true', Bool.not_eq_false', decide_eq_true_eq, decide_eq_false_iff_not] at *; omega)
                    | (simp at *; done)
                    | (exfalso; simp at *; omega)
                    | (simp at *; omega)
                 ·refine dp ?_
                  iterate 7 (refine dp ?_)
                  refine dt (hv := by exact O) ?_
                  refine dn ?_
                  refine ck1 (_) (by exact ⟨rfl, trivial⟩) (by exact ⟨rfl, rfl, rfl, rfl, trivial⟩) (by exact ⟨rfl, rfl, rfl, rfl, trivial⟩) ?_
                  first
                    | rfl
                    | (simp only [Bool.not_eq_true', Bool.not_eq_false', decide_eq_true_eq, decide_eq_false_iff_not] at *; omega)
                    | (simp at *; done)
                    | (exfalso; simp at *; omega)
                    | (simp at *; omega)
                ·refine dg (hv := by exact O) ?_
                 refine dg (hv := by exact O) ?_
                 iterate 2 (refine dt (hv := by exact O) ?_)
                 refine dgD (fun g124 => ?_) (fun g124 => ?_)
                 ·refine dg (hv := by exact O) ?_
                  refine dg (hv := by exact O) ?_
                  refine dg (hv := by exact (sdX (z := 3))) ?_
                  refine dg (hv := by exact sdFA) ?_
                  refine dg (hv := by exact sdL) ?_
                  refine dg (hv := by exact O) ?_
                  iterate 2 (refine dt (hv := by exact O) ?_)
                  refine dgB (fun g132 => ?_) (fun g132 => ?_)
                  ·refine dg (hv := by exact O) ?_
                   refine dg (hv := by exact O) ?_
                   refine dg (hv := by exact (sdX (z := 3))) ?_
                   refine dg (hv := by exact sdFA) ?_
                   refine dg (hv := by exact (by first | exact sdLG | exact sdW)) ?_
                   refine dg (hv := by exact sdFA) ?_
                   refine dg (hv := by exact sdL) ?_
                   refine dg (hv := by exact O) ?_
                   refine dt (hv := by exact O) ?_
                   refine dn ?_
                   refine ck1 (_) (by exact ⟨rfl, trivial⟩) (by exact ⟨rfl, rfl, rfl, rfl, trivial⟩) (by exact ⟨rfl, rfl, rfl, rfl, trivial⟩) ?_
                   first
                     | rfl
                     | (simp only [Bool.not_eq_true', Bool.not_eq_false', decide_eq_true_eq, decide_eq_false_iff_not] at *; omega)
                     | (simp at *; done)
                     | (exfalso; simp at *; omega)
                     | (simp at *; omega)
                  ·refine dp ?_
                   iterate 7 (refine dp ?_)
                   refine dt (hv := by exact O) ?_
                   refine dn ?_
                   refine ck1 (_) (by exact ⟨rfl, trivial⟩) (by exact ⟨rfl, rfl, rfl, rfl, trivial⟩) (by exact ⟨rfl, rfl, rfl, rfl, trivial⟩) ?_
                   first
                     | rfl
                     | (simp only [Bool.not_eq_true', Bool.not_eq_false', decide_eq_true_eq, decide_eq_false_iff_not] at *; omega)
                     | (simp at *; done)
                     | (exfalso; simp at *; omega)
                     | (simp at *; omega)
                 ·refine dp ?_
                  iterate 5 (refine dp ?_)
                  iterate 2 (refine dt (hv := by exact O) ?_)
                  iterate 8 (refine dp ?_)
                  refine dt (hv := by exact O) ?_
                  refine dn ?_
                  refine ck1 (_) (by exact ⟨rfl, trivial⟩) (by exact ⟨rfl, rfl, rfl, rfl, trivial⟩) (by exact ⟨rfl, rfl, rfl, rfl, trivial⟩) ?_
                  first
                    | rfl
                    | (simp only [Bool.not_eq_true', Bool.not_eq_false', decide_eq_true_eq, decide_eq_false_iff_not] at *; omega)
                    | (simp at *; done)
                    | (exfalso; simp at *; omega)
                    | (simp at *; omega)
               ·refine dp ?_
                refine dp ?_
                iterate 2 (refine dt (hv := by exact O) ?_)
                iterate 2 (refine dg (hv := by exact O) ?_)
                iterate 2 (refine dt (hv := by exact O) ?_)
                refine dgD (fun g124 => ?_) (fun g124 => ?_)
                ·refine dg (hv := by exact O) ?_
                 refine dg (hv := by exact O) ?_
                 refine dg (hv := by exact (sdX (z := 3))) ?_
                 refine dg (hv := by exact sdFA) ?_
                 refine dg (hv := by exact sdL) ?_
                 refine dg (hv := by exact O) ?_
                 iterate 2 (refine dt (hv := by exact O) ?_)
                 refine dgB (fun g132 => ?_) (fun g132 => ?_)
                 ·refine dg (hv := by exact O) ?_
                  refine dg (hv := by exact O) ?_
                  refine dg (hv := by exact (sdX (z := 3))) ?_
                  refine dg (hv := by exact sdFA) ?_
                  refine dg (hv := by exact (by first | exact sdLG | exact sdW)) ?_
                  refine dg (hv := by exact sdFA) ?_
                  refine dg (hv := by exact sdL) ?_
                  refine dg (hv := by exact O) ?_
                  refine dt (hv := by exact O) ?_
                  refine dn ?_
                  refine ck1 (_) (by exact ⟨rfl, trivial⟩) (by exact ⟨rfl, rfl, rfl, rfl, trivial⟩) (by exact ⟨rfl, rfl, rfl, rfl, trivial⟩) ?_
                  first
                    | rfl
                    | (simp only [Bool.not_eq_true', Bool.not_eq_false', decide_eq_true_eq, decide_eq_false_iff_not] at *; omega)
                    | (simp at *; done)
                    | (exfalso; simp at *; omega)
                    | (simp at *; omega)
                 ·refine dp ?_
                  iterate 7 (refine dp ?_)
                  refine dt (hv := by exact O) ?_
                  refine dn ?_
                  refine ck1 (_) (by exact ⟨rfl, trivial⟩) (by exact ⟨rfl, rfl, rfl, rfl, trivial⟩) (by exact ⟨rfl, rfl, rfl, rfl, trivial⟩) ?_
                  first
                    | rfl
                    | (simp only [Bool.not_eq_true', Bool.not_eq_false', decide_eq_true_eq, decide_eq_false_iff_not] at *; omega)
                    | (simp at *; done)
                    | (exfalso; simp at *; omega)
                    | (simp at *; omega)
                ·refine dp ?_
                 iterate 5 (refine dp ?_)
                 iterate 2 (refine dt (hv := by exact O) ?_)
                 iterate 8 (refine dp ?_)
                 refine dt (hv := by exact O) ?_
                 refine dn ?_
                 refine ck1 (_) (by exact ⟨rfl, trivial⟩) (by exact ⟨rfl, rfl, rfl, rfl, trivial⟩) (by exact ⟨rfl, rfl, rfl, rfl, trivial⟩) ?_
                 first
                   | rfl
                   | (simp only [Bool.not_eq_true', Bool.not_eq_false', decide_eq_true_eq, decide_eq_false_iff_not] at *; omega)
                   | (simp at *; done)
                   | (exfalso; simp at *; omega)
                   | (simp at *; omega)
              ·intro q L1 K1 e1 e2 hI
               dsimp only [List.cons_append, List.nil_append] at e1 e2
               subst e1 e2
               subst hI
               refine cB (fun c5 => ?_) (fun c5 => ?_)
               ·cases c5
               ·refine sk ?_
                iterate 2 (refine sq ?_)
                refine J.cut1 (α := Bool) (fun q => q = false) (fun q => [(158, .bool q)]) [(1, _), (3, _), (6, _)] (fun q => []) [(500021, _), (1, _)] (by exact ⟨rfl, rfl, rfl, trivial⟩) (by exact ⟨rfl, rfl, rfl, rfl, trivial⟩) ?_ ?_
                ·refine dr 17 [500021, 1] [0, 1, 2, 3, 4, 5, 6, 7, 8, 9, 10, 11, 12, 13, 14, 15, 16] ?_
                 iterate 3 (refine dt (hv := by exact O) ?_)
                 refine dgD (fun g144 => ?_) (fun g144 => ?_)
                 ·refine dg (hv := by exact sdFA) ?_
                  refine dg (hv := by exact sdL) ?_
                  refine dg (hv := by exact O) ?_
                  iterate 2 (refine dt (hv := by exact O) ?_)
                  refine dgD (fun g149 => ?_) (fun g149 => ?_)
                  ·refine dg (hv := by exact O) ?_
                   refine dg (hv := by exact O) ?_
                   refine dg (hv := by exact (sdX (z := 3))) ?_
                   refine dg (hv := by exact sdFA) ?_
                   refine dg (hv := by exact (by first | exact sdLG | exact sdW)) ?_
                   refine dg (hv := by exact sdFA) ?_
                   refine dg (hv := by exact sdL) ?_
                   refine dg (hv := by exact O) ?_
                   refine dt (hv := by exact O) ?_
                   refine dn ?_
                   refine ck1 (_) (by exact ⟨rfl, trivial⟩) (by exact ⟨rfl, rfl, rfl, trivial⟩) (by exact ⟨rfl, rfl, rfl, rfl, trivial⟩) ?_
                   first
                     | rfl
                     | (simp only [Bool.not_eq_true', Bool.not_eq_false', decide_eq_true_eq, decide_eq_false_iff_not] at *; omega)
                     | (simp at *; done)
                     | (exfalso; simp at *; omega)
                     | (simp at *; omega)
                  ·refine dp ?_
                   iterate 7 (refine dp ?_)
                   refine dt (hv := by exact O) ?_
                   refine dn ?_
                   refine ck1 (_) (by exact ⟨rfl, trivial⟩) (by exact ⟨rfl, rfl, rfl, trivial⟩) (by exact ⟨rfl, rfl, rfl, rfl, trivial⟩) ?_
                   first
                     | rfl
                     | (simp only [Bool.not_eq_true', Bool.not_eq_false', decide_eq_true_eq, decide_eq_false_iff_not] at *; omega)
                     | (simp at *; done)
                     | (exfalso; simp at *; omega)
                     | (simp at *; omega)
                 ·refine dp ?_
                  iterate 2 (refine dp ?_)
                  iterate 2 (refine dt (hv := by exact O) ?_)
                  iterate 8 (refine dp ?_)
                  refine dt (hv := by exact O) ?_
                  refine dn ?_
                  refine ck1 (_) (by exact ⟨rfl, trivial⟩) (by exact ⟨rfl, rfl, rfl, trivial⟩) (by exact ⟨rfl, rfl, rfl, rfl, trivial⟩) ?_
                  first
                    | rfl
                    | (simp only [Bool.not_eq_true', Bool.not_eq_false', decide_eq_true_eq, decide_eq_false_iff_not] at *; omega)
                    | (simp at *; done)
                    | (exfalso; simp at *; omega)
                    | (simp at *; omega)
                ·intro q L1 K1 e1 e2 hI
                 dsimp only [List.cons_append, List.nil_append] at e1 e2
                 subst e1 e2
                 subst hI
                 refine cB (fun c6 => ?_) (fun c6 => ?_)
                 ·cases c6
                 ·refine sk ?_
                  refine rg ?_
                  refine st (h := sdFA) ?_
                  refine st (h := sdL) ?_
                  refine st (h := O) ?_
                  refine st (h := (sdX (z := 1))) ?_
                  refine st (h := (by first | exact sdLG | exact sdW)) ?_
                  refine st (h := O) ?_
                  refine nl ?_
                  refine bk ?_
                  refine rg ?_
                  refine st (h := O) ?_
                  refine st (h := sdA) ?_
                  refine st (h := O) ?_
                  refine nl ?_
                  refine bk1 (i + 1) (by exact ⟨rfl, rfl, trivial⟩) (by exact ⟨rfl, rfl, trivial⟩) (by exact ⟨rfl, rfl, rfl, rfl, trivial⟩) ?_ ?_
                  · omega
                  · exact hil
           ·refine ex ?_
            refine sq ?_
            refine rg ?_
            refine cl (h := by exact fun ι hV hl => wakes25_C _) ?_
            refine st (h := O) ?_
            refine nl ?_
            repeat refine J.dropF ?_
            first
              | exact rt ⟨rfl, rfl⟩
              | (exfalso; simp at *; done)
              | (exfalso; omega)
              | (exfalso; simp at *; omega)
   ·refine jsl (hkp := by first | exact Kept.all | exact Kept.k0 | exact Kept.kY | exact Kept.kYY | exact Kept.kY3) (hL := by first | (simp [ntL, ntV, nt2, argL, nt1_i, nt1_b, nt1_o, nt1_p, h1.nt, h2.nt, hca.nt]; done) | (simp [ntL, ntV, nt2, argL, nt1_i, nt1_b, nt1_o, nt1_p, h1.nt, h2.nt]; done)) ?_
    refine dclC (hkp := by first | exact Kept.all | exact Kept.k0 | exact Kept.kY | exact Kept.kYY | exact Kept.kY3) (h := by exact fun ι hV hl => (CopyN_C _ _ x.l (hL.le hl) (by omega) hgl).ofR (arg1 (h1.rV ι _ _))) ?_
    intro u1 Y1 hQ1 hv1 hp1 hN1
    obtain ⟨hs1, hcap1, hI1⟩ := hQ1
    have hI1 := hI1 _ hN1.rows
    obtain ⟨ca, cc, hca, rfl⟩ := hI1.opl
    refine dapA0 1 500021 18 ((hA.le hN1.le).app ac) (ivs_pl _) ?_ (hL := by simp [ntL, ntV, nt2, argL, nt1_i, nt1_b, nt1_o, nt1_p, h1.nt, h2.nt, hca.nt])
    intro cap21 hc21 hd21
    refine dclC (hkp := by first | exact Kept.all | exact Kept.k0 | exact Kept.kY | exact Kept.kYY | exact Kept.kY3) (h := by exact fun ι hV hl => (Set_C _ _ (some ⟨ι 500021, 0, none⟩) cap21 x.l x.ats x.w x.ag (hI1.le hl) (hV.intsX (t := 500021) rfl rfl (by omega)) hcap1 hgl (by omega)).ofR (argC (hca.rV ι _ _) rfl)) ?_
    intro u2 Y2 hQ2 hv2 hp2 hN2
    rcases setD_cases x.l x.ats x.w x.ag with ⟨e, hg, hm, hp, hlast, hch⟩ | ⟨e1, e2⟩
    · rw [e] at hQ2
      obtain ⟨lv, hu, hlv, hR2⟩ := hQ2
      dsimp only at hu hR2
      have hS2 := hR2 _ hN2.rows
      obtain ⟨pa, pc, hpa, e3, h63, hlr⟩ := ln_at hS2
      have hnl : (linesN x.l x.ats x.w x.ag x.ats.length).length = x.ats.length := by simp [linesN]
      rw [hnl] at e3
      subst e3
      subst hu
      iterate 5 (refine dt (hv := by exact O) ?_)
      refine dn ?_
      iterate 2 (refine sq ?_)
      refine rg ?_
      iterate 2 (refine st (h := O) ?_)
      refine nl ?_
      refine cN (fun c1 => ?_) (fun c1 => ?_)
      ·try (exact absurd rfl c1)
       all_goals
         refine sq ?_
         refine rg ?_
         iterate 4 (refine st (h := O) ?_)
         refine gD (fun g34 => ?_) (fun g34 => ?_)
         ·refine clg (h := by exact fun ι hV hl => wakes25_C _) ?_
          iterate 2 (refine st (h := O) ?_)
          refine nl ?_
          repeat refine J.dropF ?_
          first
            | exact rt ⟨rfl, rfl⟩
            | (exfalso; simp at *; done)
            | (exfalso; omega)
            | (exfalso; simp at *; omega)
         ·refine sp ?_
          iterate 2 (refine st (h := O) ?_)
          refine nl ?_
          repeat refine J.dropF ?_
          first
            | exact rt ⟨rfl, rfl⟩
            | (exfalso; simp at *; done)
            | (exfalso; omega)
            | (exfalso; simp at *; omega)
      ·try (exact absurd c1 e2)
       all_goals
         refine sk ?_
         iterate 2 (refine sq ?_)
         refine rg ?_
         iterate 2 (refine st (h := O) ?_)
         refine st (h := sdFA) ?_
         refine st (h := sdL) ?_
         iterate 2 (refine st (h := O) ?_)
         refine nl ?_
         refine cN (fun c2 => ?_) (fun c2 => ?_)
         ·exact absurd rfl c2
         ·refine sk ?_
          refine sq ?_
          refine rg ?_
          refine st (h := O) ?_
          refine nl ?_
          iterate 2 (refine sq ?_)
          refine rg ?_
          refine st (h := O) ?_
          refine nl ?_
          refine bl ?_
          refine J.loop1 (α := Nat) (fun i => i ≤ x.ats.length) (fun i => [(5, .int .i64 (prevA x.ats i)), (6, .int .i64 i)]) [(1, _), (3, _)] (fun i => []) [(500021, _), (1, _)] (fun i => x.ats.length - i) (0) (by exact ⟨rfl, rfl, trivial⟩) (by exact ⟨rfl, rfl, trivial⟩) (by exact ⟨rfl, rfl, rfl, rfl, trivial⟩) ?_ ?_
          · exact Nat.zero_le _
          ·intro i L1 K1 e1 e2 hI
           dsimp only [apV, apR, List.cons_append, List.nil_append] at e1 e2
           subst e1 e2
           iterate 2 (refine sq ?_)
           refine rg ?_
           iterate 4 (refine st (h := O) ?_)
           refine nl ?_
           refine cD (fun c3 => ?_) (fun c3 => ?_)
           ·have hil : i < x.ats.length := by omega
            have hln := hch i hil
            have hlt := lineB_facts hln
            obtain ⟨ho, f1, f2, f3, f4, f5, hms⟩ := ln_facts hm hln
            obtain ⟨lb, lo, y, yp, ypc, rfl, hy, h3, _, _⟩ := hlr i (by rw [hnl]; exact hil)
            obtain rfl : lnAt x.l x.ats x.w x.ag i = y := by rw [linesN_get hil] at hy; exact Option.some.inj hy
            obtain ⟨ab, ao, rfl, har⟩ := hA.rd (by omega)
            have q1 : look ((F.add Y1).add Y2) ⟨ab, ao + (i : Int).toNat * 1, none⟩ = some (.int .i64 (ints x.ats i)) := by
              rw [Int.toNat_natCast, Nat.mul_one]
              exact hN2.le _ _ (hN1.le _ _ (har _ _ (ints_get hil)))
            rw [show lo + i * 3 = lo + (i : Int).toNat * 3 from rfl] at h3
            have k0 : look ((F.add Y1).add Y2) ⟨lb, lo + (i : Int).toNat * 3 + 0, none⟩ = some (.int .i64 (lnAt x.l x.ats x.w x.ag i).width) := lookN_at h3 0 rfl
            have k1 : look ((F.add Y1).add Y2) ⟨lb, lo + (i : Int).toNat * 3 + 1, none⟩ = some (.bool (lnAt x.l x.ats x.w x.ag i).over) := lookN_at h3 1 rfl
            rw [ho] at k1
            have hmw := mW_bd hg (a1 := (prevA x.ats i + 1).toNat) (b := (ints x.ats i).toNat) (by omega)
            have hmz := (mYZ hg (a1 := (prevA x.ats i + 1).toNat) (b := (ints x.ats i).toNat) (by omega)).2
            have hm2 := hm
            simp only [mayB, decide_eq_true_eq] at hm2
            refine sk ?_
            refine sq ?_
            refine bl ?_
            refine sq ?_
            refine dr 17 [500021, 1] [0, 1, 3, 4, 5, 6, 7, 8, 1002, 1009, 10, 11, 12, 13, 14, 15, 16] ?_
            refine dt (hv := by exact sdFA) ?_
            refine dt (hv := by exact sdL) ?_
            refine dt (hv := by exact O) ?_
            refine dt (hv := by exact sdFA) ?_
            refine dt (hv := by exact sdL) ?_
            refine dt (hv := by exact O) ?_
            refine dt (hv := by exact (sdX (z := 1))) ?_
            refine dt (hv := by exact (by first | exact sdLG | exact sdW)) ?_
            refine dclC (hkp := by first | exact Kept.all | exact Kept.k0 | exact Kept.kY | exact Kept.kYY | exact Kept.kY3) (h := by exact fun ι hV hl => (CopyN_C _ _ x.l (((hL.le hN1.le).le hN2.le).le hl) (by omega) hgl).ofR (arg1 (h1.rV ι _ _))) ?_
            intro u3 Y3 hQ3 hv3 hp3 hN3
            obtain ⟨_, _, hI3⟩ := hQ3
            have hI3 := hI3 _ hN3.rows
            obtain ⟨cb, cd, hcb, rfl⟩ := hI3.opl
            refine dcl (hkp := by first | exact Kept.all | exact Kept.k0 | exact Kept.kY | exact Kept.kYY | exact Kept.kY3) (h := by exact fun ι hV hl => (hms ▸ Measure_C _ _ x.l (prevA x.ats i) (ints x.ats i) (hI3.le hl)).ofR (argC (hcb.rV ι _ _) rfl)) ?_
            iterate 7 (refine dt (hv := by exact O) ?_)
            refine dn ?_
            refine sq ?_
            refine rg ?_
            refine JL.dropF ?_
            refine st (h := sdFA) ?_
            refine st (h := sdL) ?_
            refine st (h := O) ?_
            refine st (h := sdS) ?_
            refine st (h := O) ?_
            refine nl ?_
            iterate 2 (refine sq ?_)
            refine J.cut1 (α := Bool) (fun q => q = false) (fun q => [(112, .bool q)]) [(1, _), (3, _), (6, _), (8, _), (10, _)] (fun q => []) [(500021, _), (1, _)] (by exact ⟨rfl, rfl, rfl, rfl, rfl, trivial⟩) (by exact ⟨rfl, rfl, rfl, rfl, trivial⟩) ?_ ?_
            ·refine dr 46 [500021, 1] [0, 1, 2, 3, 4, 5, 6, 7, 8, 9, 10, 11, 12, 13, 14, 15, 16, 17, 18, 19, 20, 21, 22, 23, 24, 25, 26, 27, 28, 29, 30, 31, 32, 33, 34, 35, 36, 37, 38, 39, 40, 41, 42, 43, 44, 45] ?_
             iterate 2 (refine dt (hv := by exact O) ?_)
             refine dt (hv := by exact (sdX (z := 3))) ?_
             refine dt (hv := by exact sdFA) ?_
             refine dt (hv := by exact sdL) ?_
             refine dt (hv := by exact O) ?_
             refine dt (hv := by exact sdN) ?_
             iterate 2 (refine dt (hv := by exact O) ?_)
             refine dt (hv := by exact sbNe) ?_
             refine dt (hv := by exact O) ?_
             refine dgB (fun g77 => ?_) (fun g77 => ?_)
             ·refine dp ?_
              iterate 6 (refine dp ?_)
              iterate 8 (refine du ?_)
              refine dp ?_
              iterate 2 (refine dt (hv := by exact O) ?_)
              iterate 6 (refine dp ?_)
              iterate 9 (refine du ?_)
              refine dp ?_
              refine dt (hv := by exact O) ?_
              refine dn ?_
              refine ck1 (_) (by exact ⟨rfl, trivial⟩) (by exact ⟨rfl, rfl, rfl, rfl, rfl, trivial⟩) (by exact ⟨rfl, rfl, rfl, rfl, trivial⟩) ?_
              first
                | rfl
                | (simp only [Bool.not_eq_true', Bool.not_eq_false', decide_eq_true_eq, decide_eq_false_iff_not] at *; omega)
                | (simp at *; done)
                | (exfalso; simp at *; omega)
                | (simp at *; omega)
             ·refine dg (hv := by exact O) ?_
              refine dg (hv := by exact O) ?_
              refine dg (hv := by exact (sdX (z := 3))) ?_
              refine dg (hv := by exact sdFA) ?_
              refine dg (hv := by exact sdL) ?_
              iterate 2 (refine dg (hv := by exact O) ?_)
              refine dgB (fun g84 => ?_) (fun g84 => ?_)
              ·refine dg (hv := by exact O) ?_
               refine dg (hv := by exact O) ?_
               refine dg (hv := by exact (sdX (z := 3))) ?_
               refine dg (hv := by exact sdFA) ?_
               refine dg (hv := by exact (by first | exact sdLG | exact sdW)) ?_
               refine dg (hv := by exact sdFA) ?_
               refine dg (hv := by exact sdL) ?_
               iterate 2 (refine dg (hv := by exact O) ?_)
               iterate 2 (refine dt (hv := by exact O) ?_)
               refine dgD (fun g95 => ?_) (fun g95 => ?_)
               ·refine dp ?_
                iterate 5 (refine dp ?_)
                iterate 9 (refine du ?_)
                refine dp ?_
                refine dt (hv := by exact O) ?_
                refine dn ?_
                refine ck1 (_) (by exact ⟨rfl, trivial⟩) (by exact ⟨rfl, rfl, rfl, rfl, rfl, trivial⟩) (by exact ⟨rfl, rfl, rfl, rfl, trivial⟩) ?_
                first
                  | rfl
                  | (simp only [Bool.not_eq_true', Bool.not_eq_false', decide_eq_true_eq, decide_eq_false_iff_not] at *; omega)
                  | (simp at *; done)
                  | (exfalso; simp at *; omega)
                  | (simp at *; omega)
               ·refine dg (hv := by exact O) ?_
                refine dg (hv := by exact O) ?_
                refine dg (hv := by exact (sdX (z := 3))) ?_
                refine dg (hv := by exact sdFA) ?_
                refine dg (hv := by exact sdL) ?_
                refine dg (hv := by exact O) ?_
                refine dgB (fun g101 => ?_) (fun g101 => ?_)
                ·refine dg (hv := by exact O) ?_
                 refine dg (hv := by exact O) ?_
                 refine dg (hv := by exact (sdX (z := 3))) ?_
                 refine dg (hv := by exact sdFA) ?_
                 refine dg (hv := by exact (by first | exact sdLG | exact sdW)) ?_
                 iterate 2 (refine dg (hv := by exact O) ?_)
                 refine dg (hv := by exact sdS) ?_
                 iterate 2 (refine dg (hv := by exact O) ?_)
                 refine dt (hv := by exact O) ?_
                 refine dn ?_
                 refine ck1 (_) (by exact ⟨rfl, trivial⟩) (by exact ⟨rfl, rfl, rfl, rfl, rfl, trivial⟩) (by exact ⟨rfl, rfl, rfl, rfl, trivial⟩) ?_
                 first
                   | rfl
                   | (simp only [Bool.not_eq_true', Bool.not_eq_false', decide_eq_true_eq, decide_eq_false_iff_not] at *; omega)
                   | (simp at *; done)
                   | (exfalso; simp at *; omega)
                   | (simp at *; omega)
                ·refine dp ?_
                 iterate 8 (refine dp ?_)
                 refine dg (hv := by exact O) ?_
                 refine dt (hv := by exact O) ?_
                 refine dn ?_
                 refine ck1 (_) (by exact ⟨rfl, trivial⟩) (by exact ⟨rfl, rfl, rfl, rfl, rfl, trivial⟩) (by exact ⟨rfl, rfl, rfl, rfl, trivial⟩) ?_
                 first
                   | rfl
                   | (simp only [Bool.not_eq_true', Bool.not_eq_false', decide_eq_true_eq, decide_eq_false_iff_not] at *; omega)
                   | (simp at *; done)
                   | (exfalso; simp at *; omega)
                   | (simp at *; omega)
              ·refine dp ?_
               iterate 7 (refine dp ?_)
               refine dg (hv := by exact O) ?_
               iterate 2 (refine dt (hv := by exact O) ?_)
               iterate 2 (refine dg (hv := by exact O) ?_)
               refine dg (hv := by exact (sdX (z := 3))) ?_
               refine dg (hv := by exact sdFA) ?_
               refine dg (hv := by exact sdL) ?_
               refine dg (hv := by exact O) ?_
               refine dgB (fun g101 => ?_) (fun g101 => ?_)
               ·refine dg (hv := by exact O) ?_
                refine dg (hv := by exact O) ?_
                refine dg (hv := by exact (sdX (z := 3))) ?_
                refine dg (hv := by exact sdFA) ?_
                refine dg (hv := by exact (by first | exact sdLG | exact sdW)) ?_
                iterate 2 (refine dg (hv := by exact O) ?_)
                refine dg (hv := by exact sdS) ?_
                iterate 2 (refine dg (hv := by exact O) ?_)
                refine dt (hv := by exact O) ?_
                refine dn ?_
                refine ck1 (_) (by exact ⟨rfl, trivial⟩) (by exact ⟨rfl, rfl, rfl, rfl, rfl, trivial⟩) (by exact ⟨rfl, rfl, rfl, rfl, trivial⟩) ?_
                first
                  | rfl
                  | (simp only [Bool.not_eq_true', Bool.not_eq_false', decide_eq_true_eq, decide_eq_false_iff_not] at *; omega)
                  | (simp at *; done)
                  | (exfalso; simp at *; omega)
                  | (simp at *; omega)
               ·refine dp ?_
                iterate 8 (refine dp ?_)
                refine dg (hv := by exact O) ?_
                refine dt (hv := by exact O) ?_
                refine dn ?_
                refine ck1 (_) (by exact ⟨rfl, trivial⟩) (by exact ⟨rfl, rfl, rfl, rfl, rfl, trivial⟩) (by exact ⟨rfl, rfl, rfl, rfl, trivial⟩) ?_
                first
                  | rfl
                  | (simp only [Bool.not_eq_true', Bool.not_eq_false', decide_eq_true_eq, decide_eq_false_iff_not] at *; omega)
                  | (simp at *; done)
                  | (exfalso; simp at *; omega)
                  | (simp at *; omega)
            ·intro q L1 K1 e1 e2 hI
             dsimp only [List.cons_append, List.nil_append] at e1 e2
             subst e1 e2
             subst hI
             refine cB (fun c4 => ?_) (fun c4 => ?_)
             ·cases c4
             ·refine sk ?_
              iterate 2 (refine sq ?_)
              refine J.cut1 (α := Bool) (fun q => q = false) (fun q => [(141, .bool q)]) [(1, _), (3, _), (6, _), (10, _)] (fun q => []) [(500021, _), (1, _)] (by exact ⟨rfl, rfl, rfl, rfl, trivial⟩) (by exact ⟨rfl, rfl, rfl, rfl, trivial⟩) ?_ ?_
              ·refine dr 29 [500021, 1] [0, 1, 2, 3, 4, 5, 6, 7, 8, 9, 10, 11, 12, 13, 14, 15, 16, 17, 18, 19, 20, 21, 22, 23, 24, 25, 26, 27, 28] ?_
               refine dt (hv := by exact sdFA) ?_
               refine dt (hv := by exact sdL) ?_
               iterate 2 (refine dt (hv := by exact O) ?_)
               refine dgD (fun g116 => ?_) (fun g116 => ?_)
               ·refine dg (hv := by exact O) ?_
                refine dg (hv := by exact O) ?_
                iterate 2 (refine dt (hv := by exact O) ?_)
                refine dgD (fun g120 => ?_) (fun g120 => ?_)
                ·refine dp ?_
                 refine dp ?_
                 iterate 2 (refine dt (hv := by exact O) ?_)
                 iterate 2 (refine dg (hv := by exact O) ?_)
                 refine dg (hv := by exact (sdX (z := 3))) ?_
                 refine dg (hv := by exact sdFA) ?_
                 refine dg (hv := by exact sdL) ?_
                 refine dg (hv := by exact O) ?_
                 iterate 2 (refine dt (hv := by exact O) ?_)
                 refine dgB (fun g132 => ?_) (fun g132 => ?_)
                 ·refine dg (hv := by exact O) ?_
                  refine dg (hv := by exact O) ?_
                  refine dg (hv := by exact (sdX (z := 3))) ?_
                  refine dg (hv := by exact sdFA) ?_
                  refine dg (hv := by exact (by first | exact sdLG | exact sdW)) ?_
                  refine dg (hv := by exact sdFA) ?_
                  refine dg (hv := by exact sdL) ?_
                  refine dg (hv := by exact O) ?_
                  refine dt (hv := by exact O) ?_
                  refine dn ?_
                  refine ck1 (_) (by exact ⟨rfl, trivial⟩) (by exact ⟨rfl, rfl, rfl, rfl, trivial⟩) (by exact ⟨rfl, rfl, rfl, rfl, trivial⟩) ?_
                  first
                    | rfl
                    | (simp only [Bool.not_eq_true', Bool.not_eq_false', decide_eq_true_eq, decide_eq_false_iff_not] at *; omega)
                    | (simp at *; done)
                    | (exfalso; simp at *; omega)
                    | (simp at *; omega)
                 ·refine dp ?_
                  iterate 7 (refine dp ?_)
                  refine dt (hv := by exact O) ?_
                  refine dn ?_
                  refine ck1 (_) (by exact ⟨rfl, trivial⟩) (by exact ⟨rfl, rfl, rfl, rfl, trivial⟩) (by exact ⟨rfl, rfl, rfl, rfl, trivial⟩) ?_
                  first
                    | rfl
                    | (simp only [Bool.not_eq_true', Bool.not_eq_false', decide_eq_true_eq, decide_eq_false_iff_not] at *; omega)
                    | (simp at *; done)
                    | (exfalso; simp at *; omega)
                    | (simp at *; omega)
                ·refine dg (hv := by exact O) ?_
                 refine dg (hv := by exact O) ?_
                 iterate 2 (refine dt (hv := by exact O) ?_)
                 refine dgD (fun g124 => ?_) (fun g124 => ?_)
                 ·refine dg (hv := by exact O) ?_
                  refine dg (hv := by exact O) ?_
                  refine dg (hv := by exact (sdX (z := 3))) ?_
                  refine dg (hv := by exact sdFA) ?_
                  refine dg (hv := by exact sdL) ?_
                  refine dg (hv := by exact O) ?_
                  iterate 2 (refine dt (hv := by exact O) ?_)
                  refine dgB (fun g132 => ?_) (fun g132 => ?_)
                  ·refine dg (hv := by exact O) ?_
                   refine dg (hv := by exact O) ?_
                   refine dg (hv := by exact (sdX (z := 3))) ?_
                   refine dg (hv := by exact sdFA) ?_
                   refine dg (hv := by exact (by first | exact sdLG | exact sdW)) ?_
                   refine dg (hv := by exact sdFA) ?_
                   refine dg (hv := by exact sdL) ?_
                   refine dg (hv := by exact O) ?_
                   refine dt (hv := by exact O) ?_
                   refine dn ?_
                   refine ck1 (_) (by exact ⟨rfl, trivial⟩) (by exact ⟨rfl, rfl, rfl, rfl, trivial⟩) (by exact ⟨rfl, rfl, rfl, rfl, trivial⟩) ?_
                   first
                     | rfl
                     | (simp only [Bool.not_eq_true', Bool.not_eq_false', decide_eq_true_eq, decide_eq_false_iff_not] at *; omega)
                     | (simp at *; done)
                     | (exfalso; simp at *; omega)
                     | (simp at *; omega)
                  ·refine dp ?_
                   iterate 7 (refine dp ?_)
                   refine dt (hv := by exact O) ?_
                   refine dn ?_
                   refine ck1 (_) (by exact ⟨rfl, trivial⟩) (by exact ⟨rfl, rfl, rfl, rfl, trivial⟩) (by exact ⟨rfl, rfl, rfl, rfl, trivial⟩) ?_
                   first
                     | rfl
                     | (simp only [Bool.not_eq_true', Bool.not_eq_false', decide_eq_true_eq, decide_eq_false_iff_not] at *; omega)
                     | (simp at *; done)
                     | (exfalso; simp at *; omega)
                     | (simp at *; omega)
                 ·refine dp ?_
                  iterate 5 (refine dp ?_)
                  iterate 2 (refine dt (hv := by exact O) ?_)
                  iterate 8 (refine dp ?_)
                  refine dt (hv := by exact O) ?_
                  refine dn ?_
                  refine ck1 (_) (by exact ⟨rfl, trivial⟩) (by exact ⟨rfl, rfl, rfl, rfl, trivial⟩) (by exact ⟨rfl, rfl, rfl, rfl, trivial⟩) ?_
                  first
                    | rfl
                    | (simp only [Bool.not_eq_true', Bool.not_eq_false', decide_eq_true_eq, decide_eq_false_iff_not] at *; omega)
                    | (simp at *; done)
                    | (exfalso; simp at *; omega)
                    | (simp at *; omega)
               ·refine dp ?_
                refine dp ?_
                iterate 2 (refine dt (hv := by exact O) ?_)
                iterate 2 (refine dg (hv := by exact O) ?_)
                iterate 2 (refine dt (hv := by exact O) ?_)
                refine dgD (fun g124 => ?_) (fun g124 => ?_)
                ·refine dg (hv := by exact O) ?_
                 refine dg (hv := by exact O) ?_
                 refine dg (hv := by exact (sdX (z := 3))) ?_
                 refine dg (hv := by exact sdFA) ?_
                 refine dg (hv := by exact sdL) ?_
                 refine dg (hv := by exact O) ?_
                 iterate 2 (refine dt (hv := by exact O) ?_)
                 refine dgB (fun g132 => ?_) (fun g132 => ?_)
                 ·refine dg (hv := by exact O) ?_
                  refine dg (hv := by exact O) ?_
                  refine dg (hv := by exact (sdX (z := 3))) ?_
                  refine dg (hv := by exact sdFA) ?_
                  refine dg (hv := by exact (by first | exact sdLG | exact sdW)) ?_
                  refine dg (hv := by exact sdFA) ?_
                  refine dg (hv := by exact sdL) ?_
                  refine dg (hv := by exact O) ?_
                  refine dt (hv := by exact O) ?_
                  refine dn ?_
                  refine ck1 (_) (by exact ⟨rfl, trivial⟩) (by exact ⟨rfl, rfl, rfl, rfl, trivial⟩) (by exact ⟨rfl, rfl, rfl, rfl, trivial⟩) ?_
                  first
                    | rfl
                    | (simp only [Bool.not_eq_true', Bool.not_eq_false', decide_eq_true_eq, decide_eq_false_iff_not] at *; omega)
                    | (simp at *; done)
                    | (exfalso; simp at *; omega)
                    | (simp at *; omega)
                 ·refine dp ?_
                  iterate 7 (refine dp ?_)
                  refine dt (hv := by exact O) ?_
                  refine dn ?_
                  refine ck1 (_) (by exact ⟨rfl, trivial⟩) (by exact ⟨rfl, rfl, rfl, rfl, trivial⟩) (by exact ⟨rfl, rfl, rfl, rfl, trivial⟩) ?_
                  first
                    | rfl
                    | (simp only [Bool.not_eq_true', Bool.not_eq_false', decide_eq_true_eq, decide_eq_false_iff_not] at *; omega)
                    | (simp at *; done)
                    | (exfalso; simp at *; omega)
                    | (simp at *; omega)
                ·refine dp ?_
                 iterate 5 (refine dp ?_)
                 iterate 2 (refine dt (hv := by exact O) ?_)
                 iterate 8 (refine dp ?_)
                 refine dt (hv := by exact O) ?_
                 refine dn ?_
                 refine ck1 (_) (by exact ⟨rfl, trivial⟩) (by exact ⟨rfl, rfl, rfl, rfl, trivial⟩) (by exact ⟨rfl, rfl, rfl, rfl, trivial⟩) ?_
                 first
                   | rfl
                   | (simp only [Bool.not_eq_true', Bool.not_eq_false', decide_eq_true_eq, decide_eq_false_iff_not] at *; omega)
                   | (simp at *; done)
                   | (exfalso; simp at *; omega)
                   | (simp at *; omega)
              ·intro q L1 K1 e1 e2 hI
               dsimp only [List.cons_append, List.nil_append] at e1 e2
               subst e1 e2
               subst hI
               refine cB (fun c5 => ?_) (fun c5 => ?_)
               ·cases c5
               ·refine sk ?_
                iterate 2 (refine sq ?_)
                refine J.cut1 (α := Bool) (fun q => q = false) (fun q => [(158, .bool q)]) [(1, _), (3, _), (6, _)] (fun q => []) [(500021, _), (1, _)] (by exact ⟨rfl, rfl, rfl, trivial⟩) (by exact ⟨rfl, rfl, rfl, rfl, trivial⟩) ?_ ?_
                ·refine dr 17 [500021, 1] [0, 1, 2, 3, 4, 5, 6, 7, 8, 9, 10, 11, 12, 13, 14, 15, 16] ?_
                 iterate 3 (refine dt (hv := by exact O) ?_)
                 refine dgD (fun g144 => ?_) (fun g144 => ?_)
                 ·refine dg (hv := by exact sdFA) ?_
                  refine dg (hv := by exact sdL) ?_
                  refine dg (hv := by exact O) ?_
                  iterate 2 (refine dt (hv := by exact O) ?_)
                  refine dgD (fun g149 => ?_) (fun g149 => ?_)
                  ·refine dg (hv := by exact O) ?_
                   refine dg (hv := by exact O) ?_
                   refine dg (hv := by exact (sdX (z := 3))) ?_
                   refine dg (hv := by exact sdFA) ?_
                   refine dg (hv := by exact (by first | exact sdLG | exact sdW)) ?_
                   refine dg (hv := by exact sdFA) ?_
                   refine dg (hv := by exact sdL) ?_
                   refine dg (hv := by exact O) ?_
                   refine dt (hv := by exact O) ?_
                   refine dn ?_
                   refine ck1 (_) (by exact ⟨rfl, trivial⟩) (by exact ⟨rfl, rfl, rfl, trivial⟩) (by exact ⟨rfl, rfl, rfl, rfl, trivial⟩) ?_
                   first
                     | rfl
                     | (simp only [Bool.not_eq_true', Bool.not_eq_false', decide_eq_true_eq, decide_eq_false_iff_not] at *; omega)
                     | (simp at *; done)
                     | (exfalso; simp at *; omega)
                     | (simp at *; omega)
                  ·refine dp ?_
                   iterate 7 (refine dp ?_)
                   refine dt (hv := by exact O) ?_
                   refine dn ?_
                   refine ck1 (_) (by exact ⟨rfl, trivial⟩) (by exact ⟨rfl, rfl, rfl, trivial⟩) (by exact ⟨rfl, rfl, rfl, rfl, trivial⟩) ?_
                   first
                     | rfl
                     | (simp only [Bool.not_eq_true', Bool.not_eq_false', decide_eq_true_eq, decide_eq_false_iff_not] at *; omega)
                     | (simp at *; done)
                     | (exfalso; simp at *; omega)
                     | (simp at *; omega)
                 ·refine dp ?_
                  iterate 2 (refine dp ?_)
                  iterate 2 (refine dt (hv := by exact O) ?_)
                  iterate 8 (refine dp ?_)
                  refine dt (hv := by exact O) ?_
                  refine dn ?_
                  refine ck1 (_) (by exact ⟨rfl, trivial⟩) (by exact ⟨rfl, rfl, rfl, trivial⟩) (by exact ⟨rfl, rfl, rfl, rfl, trivial⟩) ?_
                  first
                    | rfl
                    | (simp only [Bool.not_eq_true', Bool.not_eq_false', decide_eq_true_eq, decide_eq_false_iff_not] at *; omega)
                    | (simp at *; done)
                    | (exfalso; simp at *; omega)
                    | (simp at *; omega)
                ·intro q L1 K1 e1 e2 hI
                 dsimp only [List.cons_append, List.nil_append] at e1 e2
                 subst e1 e2
                 subst hI
                 refine cB (fun c6 => ?_) (fun c6 => ?_)
                 ·cases c6
                 ·refine sk ?_
                  refine rg ?_
                  refine st (h := sdFA) ?_
                  refine st (h := sdL) ?_
                  refine st (h := O) ?_
                  refine st (h := (sdX (z := 1))) ?_
                  refine st (h := (by first | exact sdLG | exact sdW)) ?_
                  refine st (h := O) ?_
                  refine nl ?_
                  refine bk ?_
                  refine rg ?_
                  refine st (h := O) ?_
                  refine st (h := sdA) ?_
                  refine st (h := O) ?_
                  refine nl ?_
                  refine bk1 (i + 1) (by exact ⟨rfl, rfl, trivial⟩) (by exact ⟨rfl, rfl, trivial⟩) (by exact ⟨rfl, rfl, rfl, rfl, trivial⟩) ?_ ?_
                  · omega
                  · exact hil
           ·refine ex ?_
            refine sq ?_
            refine rg ?_
            refine cl (h := by exact fun ι hV hl => wakes25_C _) ?_
            refine st (h := O) ?_
            refine nl ?_
            repeat refine J.dropF ?_
            first
              | exact rt ⟨rfl, rfl⟩
              | (exfalso; simp at *; done)
              | (exfalso; omega)
              | (exfalso; simp at *; omega)
    · obtain ⟨lv, hu, hlv, hR2⟩ := hQ2
      rw [e1] at hR2
      have hS2 := hR2 _ hN2.rows
      obtain ⟨pa, pc, hpa, e3, h63, hlr⟩ := ln_at hS2
      subst e3
      subst hu
      iterate 5 (refine dt (hv := by exact O) ?_)
      refine dn ?_
      iterate 2 (refine sq ?_)
      refine rg ?_
      iterate 2 (refine st (h := O) ?_)
      refine nl ?_
      refine cN (fun c1 => ?_) (fun c1 => ?_)
      ·try (exact absurd rfl c1)
       all_goals
         refine sq ?_
         refine rg ?_
         iterate 4 (refine st (h := O) ?_)
         refine gD (fun g34 => ?_) (fun g34 => ?_)
         ·refine clg (h := by exact fun ι hV hl => wakes25_C _) ?_
          iterate 2 (refine st (h := O) ?_)
          refine nl ?_
          repeat refine J.dropF ?_
          first
            | exact rt ⟨rfl, rfl⟩
            | (exfalso; simp at *; done)
            | (exfalso; omega)
            | (exfalso; simp at *; omega)
         ·refine sp ?_
          iterate 2 (refine st (h := O) ?_)
          refine nl ?_
          repeat refine J.dropF ?_
          first
            | exact rt ⟨rfl, rfl⟩
            | (exfalso; simp at *; done)
            | (exfalso; omega)
            | (exfalso; simp at *; omega)
      ·try (exact absurd c1 e2)
       all_goals
         refine sk ?_
         iterate 2 (refine sq ?_)
         refine rg ?_
         iterate 2 (refine st (h := O) ?_)
         refine st (h := sdFA) ?_
         refine st (h := sdL) ?_
         iterate 2 (refine st (h := O) ?_)
         refine nl ?_
         refine cN (fun c2 => ?_) (fun c2 => ?_)
         ·exact absurd rfl c2
         ·refine sk ?_
          refine sq ?_
          refine rg ?_
          refine st (h := O) ?_
          refine nl ?_
          iterate 2 (refine sq ?_)
          refine rg ?_
          refine st (h := O) ?_
          refine nl ?_
          refine bl ?_
          refine J.loop1 (α := Nat) (fun i => i ≤ x.ats.length) (fun i => [(5, .int .i64 (prevA x.ats i)), (6, .int .i64 i)]) [(1, _), (3, _)] (fun i => []) [(500021, _), (1, _)] (fun i => x.ats.length - i) (0) (by exact ⟨rfl, rfl, trivial⟩) (by exact ⟨rfl, rfl, trivial⟩) (by exact ⟨rfl, rfl, rfl, rfl, trivial⟩) ?_ ?_
          · exact Nat.zero_le _
          ·intro i L1 K1 e1 e2 hI
           dsimp only [apV, apR, List.cons_append, List.nil_append] at e1 e2
           subst e1 e2
           iterate 2 (refine sq ?_)
           refine rg ?_
           iterate 4 (refine st (h := O) ?_)
           refine nl ?_
           refine cD (fun c3 => ?_) (fun c3 => ?_)
           ·have hil : i < x.ats.length := by omega
            have hln := hch i hil
            have hlt := lineB_facts hln
            obtain ⟨ho, f1, f2, f3, f4, f5, hms⟩ := ln_facts hm hln
            obtain ⟨lb, lo, y, yp, ypc, rfl, hy, h3, _, _⟩ := hlr i (by rw [hnl]; exact hil)
            obtain rfl : lnAt x.l x.ats x.w x.ag i = y := by rw [linesN_get hil] at hy; exact Option.some.inj hy
            obtain ⟨ab, ao, rfl, har⟩ := hA.rd (by omega)
            have q1 : look ((F.add Y1).add Y2) ⟨ab, ao + (i : Int).toNat * 1, none⟩ = some (.int .i64 (ints x.ats i)) := by
              rw [Int.toNat_natCast, Nat.mul_one]
              exact hN2.le _ _ (hN1.le _ _ (har _ _ (ints_get hil)))
            rw [show lo + i * 3 = lo + (i : Int).toNat * 3 from rfl] at h3
            have k0 : look ((F.add Y1).add Y2) ⟨lb, lo + (i : Int).toNat * 3 + 0, none⟩ = some (.int .i64 (lnAt x.l x.ats x.w x.ag i).width) := lookN_at h3 0 rfl
            have k1 : look ((F.add Y1).add Y2) ⟨lb, lo + (i : Int).toNat * 3 + 1, none⟩ = some (.bool (lnAt x.l x.ats x.w x.ag i).over) := lookN_at h3 1 rfl
            rw [ho] at k1
            have hmw := mW_bd hg (a1 := (prevA x.ats i + 1).toNat) (b := (ints x.ats i).toNat) (by omega)
            have hmz := (mYZ hg (a1 := (prevA x.ats i + 1).toNat) (b := (ints x.ats i).toNat) (by omega)).2
            have hm2 := hm
            simp only [mayB, decide_eq_true_eq] at hm2
            refine sk ?_
            refine sq ?_
            refine bl ?_
            refine sq ?_
            refine dr 17 [500021, 1] [0, 1, 3, 4, 5, 6, 7, 8, 1002, 1009, 10, 11, 12, 13, 14, 15, 16] ?_
            refine dt (hv := by exact sdFA) ?_
            refine dt (hv := by exact sdL) ?_
            refine dt (hv := by exact O) ?_
            refine dt (hv := by exact sdFA) ?_
            refine dt (hv := by exact sdL) ?_
            refine dt (hv := by exact O) ?_
            refine dt (hv := by exact (sdX (z := 1))) ?_
            refine dt (hv := by exact (by first | exact sdLG | exact sdW)) ?_
            refine dclC (hkp := by first | exact Kept.all | exact Kept.k0 | exact Kept.kY | exact Kept.kYY | exact Kept.kY3) (h := by exact fun ι hV hl => (CopyN_C _ _ x.l (((hL.le hN1.le).le hN2.le).le hl) (by omega) hgl).ofR (arg1 (h1.rV ι _ _))) ?_
            intro u3 Y3 hQ3 hv3 hp3 hN3
            obtain ⟨_, _, hI3⟩ := hQ3
            have hI3 := hI3 _ hN3.rows
            obtain ⟨cb, cd, hcb, rfl⟩ := hI3.opl
            refine dcl (hkp := by first | exact Kept.all | exact Kept.k0 | exact Kept.kY | exact Kept.kYY | exact Kept.kY3) (h := by exact fun ι hV hl => (hms ▸ Measure_C _ _ x.l (prevA x.ats i) (ints x.ats i) (hI3.le hl)).ofR (argC (hcb.rV ι _ _) rfl)) ?_
            iterate 7 (refine dt (hv := by exact O) ?_)
            refine dn ?_
            refine sq ?_
            refine rg ?_
            refine JL.dropF ?_
            refine st (h := sdFA) ?_
            refine st (h := sdL) ?_
            refine st (h := O) ?_
            refine st (h := sdS) ?_
            refine st (h := O) ?_
            refine nl ?_
            iterate 2 (refine sq ?_)
            refine J.cut1 (α := Bool) (fun q => q = false) (fun q => [(112, .bool q)]) [(1, _), (3, _), (6, _), (8, _), (10, _)] (fun q => []) [(500021, _), (1, _)] (by exact ⟨rfl, rfl, rfl, rfl, rfl, trivial⟩) (by exact ⟨rfl, rfl, rfl, rfl, trivial⟩) ?_ ?_
            ·refine dr 46 [500021, 1] [0, 1, 2, 3, 4, 5, 6, 7, 8, 9, 10, 11, 12, 13, 14, 15, 16, 17, 18, 19, 20, 21, 22, 23, 24, 25, 26, 27, 28, 29, 30, 31, 32, 33, 34, 35, 36, 37, 38, 39, 40, 41, 42, 43, 44, 45] ?_
             iterate 2 (refine dt (hv := by exact O) ?_)
             refine dt (hv := by exact (sdX (z := 3))) ?_
             refine dt (hv := by exact sdFA) ?_
             refine dt (hv := by exact sdL) ?_
             refine dt (hv := by exact O) ?_
             refine dt (hv := by exact sdN) ?_
             iterate 2 (refine dt (hv := by exact O) ?_)
             refine dt (hv := by exact sbNe) ?_
             refine dt (hv := by exact O) ?_
             refine dgB (fun g77 => ?_) (fun g77 => ?_)
             ·refine dp ?_
              iterate 6 (refine dp ?_)
              iterate 8 (refine du ?_)
              refine dp ?_
              iterate 2 (refine dt (hv := by exact O) ?_)
              iterate 6 (refine dp ?_)
              iterate 9 (refine du ?_)
              refine dp ?_
              refine dt (hv := by exact O) ?_
              refine dn ?_
              refine ck1 (_) (by exact ⟨rfl, trivial⟩) (by exact ⟨rfl, rfl, rfl, rfl, rfl, trivial⟩) (by exact ⟨rfl, rfl, rfl, rfl, trivial⟩) ?_
              first
                | rfl
                | (simp only [Bool.not_eq_true', Bool.not_eq_false', decide_eq_true_eq, decide_eq_false_iff_not] at *; omega)
                | (simp at *; done)
                | (exfalso; simp at *; omega)
                | (simp at *; omega)
             ·refine dg (hv := by exact O) ?_
              refine dg (hv := by exact O) ?_
              refine dg (hv := by exact (sdX (z := 3))) ?_
              refine dg (hv := by exact sdFA) ?_
              refine dg (hv := by exact sdL) ?_
              iterate 2 (refine dg (hv := by exact O) ?_)
              refine dgB (fun g84 => ?_) (fun g84 => ?_)
              ·refine dg (hv := by exact O) ?_
               refine dg (hv := by exact O) ?_
               refine dg (hv := by exact (sdX (z := 3))) ?_
               refine dg (hv := by exact sdFA) ?_
               refine dg (hv := by exact (by first | exact sdLG | exact sdW)) ?_
               refine dg (hv := by exact sdFA) ?_
               refine dg (hv := by exact sdL) ?_
               iterate 2 (refine dg (hv := by exact O) ?_)
               iterate 2 (refine dt (hv := by exact O) ?_)
               refine dgD (fun g95 => ?_) (fun g95 => ?_)
               ·refine dp ?_
                iterate 5 (refine dp ?_)
                iterate 9 (refine du ?_)
                refine dp ?_
                refine dt (hv := by exact O) ?_
                refine dn ?_
                refine ck1 (_) (by exact ⟨rfl, trivial⟩) (by exact ⟨rfl, rfl, rfl, rfl, rfl, trivial⟩) (by exact ⟨rfl, rfl, rfl, rfl, trivial⟩) ?_
                first
                  | rfl
                  | (simp only [Bool.not_eq_true', Bool.not_eq_false', decide_eq_true_eq, decide_eq_false_iff_not] at *; omega)
                  | (simp at *; done)
                  | (exfalso; simp at *; omega)
                  | (simp at *; omega)
               ·refine dg (hv := by exact O) ?_
                refine dg (hv := by exact O) ?_
                refine dg (hv := by exact (sdX (z := 3))) ?_
                refine dg (hv := by exact sdFA) ?_
                refine dg (hv := by exact sdL) ?_
                refine dg (hv := by exact O) ?_
                refine dgB (fun g101 => ?_) (fun g101 => ?_)
                ·refine dg (hv := by exact O) ?_
                 refine dg (hv := by exact O) ?_
                 refine dg (hv := by exact (sdX (z := 3))) ?_
                 refine dg (hv := by exact sdFA) ?_
                 refine dg (hv := by exact (by first | exact sdLG | exact sdW)) ?_
                 iterate 2 (refine dg (hv := by exact O) ?_)
                 refine dg (hv := by exact sdS) ?_
                 iterate 2 (refine dg (hv := by exact O) ?_)
                 refine dt (hv := by exact O) ?_
                 refine dn ?_
                 refine ck1 (_) (by exact ⟨rfl, trivial⟩) (by exact ⟨rfl, rfl, rfl, rfl, rfl, trivial⟩) (by exact ⟨rfl, rfl, rfl, rfl, trivial⟩) ?_
                 first
                   | rfl
                   | (simp only [Bool.not_eq_true', Bool.not_eq_false', decide_eq_true_eq, decide_eq_false_iff_not] at *; omega)
                   | (simp at *; done)
                   | (exfalso; simp at *; omega)
                   | (simp at *; omega)
                ·refine dp ?_
                 iterate 8 (refine dp ?_)
                 refine dg (hv := by exact O) ?_
                 refine dt (hv := by exact O) ?_
                 refine dn ?_
                 refine ck1 (_) (by exact ⟨rfl, trivial⟩) (by exact ⟨rfl, rfl, rfl, rfl, rfl, trivial⟩) (by exact ⟨rfl, rfl, rfl, rfl, trivial⟩) ?_
                 first
                   | rfl
                   | (simp only [Bool.not_eq_true', Bool.not_eq_false', decide_eq_true_eq, decide_eq_false_iff_not] at *; omega)
                   | (simp at *; done)
                   | (exfalso; simp at *; omega)
                   | (simp at *; omega)
              ·refine dp ?_
               iterate 7 (refine dp ?_)
               refine dg (hv := by exact O) ?_
               iterate 2 (refine dt (hv := by exact O) ?_)
               iterate 2 (refine dg (hv := by exact O) ?_)
               refine dg (hv := by exact (sdX (z := 3))) ?_
               refine dg (hv := by exact sdFA) ?_
               refine dg (hv := by exact sdL) ?_
               refine dg (hv := by exact O) ?_
               refine dgB (fun g101 => ?_) (fun g101 => ?_)
               ·refine dg (hv := by exact O) ?_
                refine dg (hv := by exact O) ?_
                refine dg (hv := by exact (sdX (z := 3))) ?_
                refine dg (hv := by exact sdFA) ?_
                refine dg (hv := by exact (by first | exact sdLG | exact sdW)) ?_
                iterate 2 (refine dg (hv := by exact O) ?_)
                refine dg (hv := by exact sdS) ?_
                iterate 2 (refine dg (hv := by exact O) ?_)
                refine dt (hv := by exact O) ?_
                refine dn ?_
                refine ck1 (_) (by exact ⟨rfl, trivial⟩) (by exact ⟨rfl, rfl, rfl, rfl, rfl, trivial⟩) (by exact ⟨rfl, rfl, rfl, rfl, trivial⟩) ?_
                first
                  | rfl
                  | (simp only [Bool.not_eq_true', Bool.not_eq_false', decide_eq_true_eq, decide_eq_false_iff_not] at *; omega)
                  | (simp at *; done)
                  | (exfalso; simp at *; omega)
                  | (simp at *; omega)
               ·refine dp ?_
                iterate 8 (refine dp ?_)
                refine dg (hv := by exact O) ?_
                refine dt (hv := by exact O) ?_
                refine dn ?_
                refine ck1 (_) (by exact ⟨rfl, trivial⟩) (by exact ⟨rfl, rfl, rfl, rfl, rfl, trivial⟩) (by exact ⟨rfl, rfl, rfl, rfl, trivial⟩) ?_
                first
                  | rfl
                  | (simp only [Bool.not_eq_true', Bool.not_eq_false', decide_eq_true_eq, decide_eq_false_iff_not] at *; omega)
                  | (simp at *; done)
                  | (exfalso; simp at *; omega)
                  | (simp at *; omega)
            ·intro q L1 K1 e1 e2 hI
             dsimp only [List.cons_append, List.nil_append] at e1 e2
             subst e1 e2
             subst hI
             refine cB (fun c4 => ?_) (fun c4 => ?_)
             ·cases c4
             ·refine sk ?_
              iterate 2 (refine sq ?_)
              refine J.cut1 (α := Bool) (fun q => q = false) (fun q => [(141, .bool q)]) [(1, _), (3, _), (6, _), (10, _)] (fun q => []) [(500021, _), (1, _)] (by exact ⟨rfl, rfl, rfl, rfl, trivial⟩) (by exact ⟨rfl, rfl, rfl, rfl, trivial⟩) ?_ ?_
              ·refine dr 29 [500021, 1] [0, 1, 2, 3, 4, 5, 6, 7, 8, 9, 10, 11, 12, 13, 14, 15, 16, 17, 18, 19, 20, 21, 22, 23, 24, 25, 26, 27, 28] ?_
               refine dt (hv := by exact sdFA) ?_
               refine dt (hv := by exact sdL) ?_
               iterate 2 (refine dt (hv := by exact O) ?_)
               refine dgD (fun g116 => ?_) (fun g116 => ?_)
               ·refine dg (hv := by exact O) ?_
                refine dg (hv := by exact O) ?_
                iterate 2 (refine dt (hv := by exact O) ?_)
                refine dgD (fun g120 => ?_) (fun g120 => ?_)
                ·refine dp ?_
                 refine dp ?_
                 iterate 2 (refine dt (hv := by exact O) ?_)
                 iterate 2 (refine dg (hv := by exact O) ?_)
                 refine dg (hv := by exact (sdX (z := 3))) ?_
                 refine dg (hv := by exact sdFA) ?_
                 refine dg (hv := by exact sdL) ?_
                 refine dg (hv := by exact O) ?_
                 iterate 2 (refine dt (hv := by exact O) ?_)
                 refine dgB (fun g132 => ?_) (fun g132 => ?_)
                 ·refine dg (hv := by exact O) ?_
                  refine dg (hv := by exact O) ?_
                  refine dg (hv := by exact (sdX (z := 3))) ?_
                  refine dg (hv := by exact sdFA) ?_
                  refine dg (hv := by exact (by first | exact sdLG | exact sdW)) ?_
                  refine dg (hv := by exact sdFA) ?_
                  refine dg (hv := by exact sdL) ?_
                  refine dg (hv := by exact O) ?_
                  refine dt (hv := by exact O) ?_
                  refine dn ?_
                  refine ck1 (_) (by exact ⟨rfl, trivial⟩) (by exact ⟨rfl, rfl, rfl, rfl, trivial⟩) (by exact ⟨rfl, rfl, rfl, rfl, trivial⟩) ?_
                  first
                    | rfl
                    | (simp only [Bool.not_eq_true', Bool.not_eq_false', decide_eq_true_eq, decide_eq_false_iff_not] at *; omega)
                    | (simp at *; done)
                    | (exfalso; simp at *; omega)
                    | (simp at *; omega)
                 ·refine dp ?_
                  iterate 7 (refine dp ?_)
                  refine dt (hv := by exact O) ?_
                  refine dn ?_
                  refine ck1 (_) (by exact ⟨rfl, trivial⟩) (by exact ⟨rfl, rfl, rfl, rfl, trivial⟩) (by exact ⟨rfl, rfl, rfl, rfl, trivial⟩) ?_
                  first
                    | rfl
                    | (simp only [Bool.not_eq_true', Bool.not_eq_false', decide_eq_true_eq, decide_eq_false_iff_not] at *; omega)
                    | (simp at *; done)
                    | (exfalso; simp at *; omega)
                    | (simp at *; omega)
                ·refine dg (hv := by exact O) ?_
                 refine dg (hv := by exact O) ?_
                 iterate 2 (refine dt (hv := by exact O) ?_)
                 refine dgD (fun g124 => ?_) (fun g124 => ?_)
                 ·refine dg (hv := by exact O) ?_
                  refine dg (hv := by exact O) ?_
                  refine dg (hv := by exact (sdX (z := 3))) ?_
                  refine dg (hv := by exact sdFA) ?_
                  refine dg (hv := by exact sdL) ?_
                  refine dg (hv := by exact O) ?_
                  iterate 2 (refine dt (hv := by exact O) ?_)
                  refine dgB (fun g132 => ?_) (fun g132 => ?_)
                  ·refine dg (hv := by exact O) ?_
                   refine dg (hv := by exact O) ?_
                   refine dg (hv := by exact (sdX (z := 3))) ?_
                   refine dg (hv := by exact sdFA) ?_
                   refine dg (hv := by exact (by first | exact sdLG | exact sdW)) ?_
                   refine dg (hv := by exact sdFA) ?_
                   refine dg (hv := by exact sdL) ?_
                   refine dg (hv := by exact O) ?_
                   refine dt (hv := by exact O) ?_
                   refine dn ?_
                   refine ck1 (_) (by exact ⟨rfl, trivial⟩) (by exact ⟨rfl, rfl, rfl, rfl, trivial⟩) (by exact ⟨rfl, rfl, rfl, rfl, trivial⟩) ?_
                   first
                     | rfl
                     | (simp only [Bool.not_eq_true', Bool.not_eq_false', decide_eq_true_eq, decide_eq_false_iff_not] at *; omega)
                     | (simp at *; done)
                     | (exfalso; simp at *; omega)
                     | (simp at *; omega)
                  ·refine dp ?_
                   iterate 7 (refine dp ?_)
                   refine dt (hv := by exact O) ?_
                   refine dn ?_
                   refine ck1 (_) (by exact ⟨rfl, trivial⟩) (by exact ⟨rfl, rfl, rfl, rfl, trivial⟩) (by exact ⟨rfl, rfl, rfl, rfl, trivial⟩) ?_
                   first
                     | rfl
                     | (simp only [Bool.not_eq_true', Bool.not_eq_false', decide_eq_true_eq, decide_eq_false_iff_not] at *; omega)
                     | (simp at *; done)
                     | (exfalso; simp at *; omega)
                     | (simp at *; omega)
                 ·refine dp ?_
                  iterate 5 (refine dp ?_)
                  iterate 2 (refine dt (hv := by exact O) ?_)
                  iterate 8 (refine dp ?_)
                  refine dt (hv := by exact O) ?_
                  refine dn ?_
                  refine ck1 (_) (by exact ⟨rfl, trivial⟩) (by exact ⟨rfl, rfl, rfl, rfl, trivial⟩) (by exact ⟨rfl, rfl, rfl, rfl, trivial⟩) ?_
                  first
                    | rfl
                    | (simp only [Bool.not_eq_true', Bool.not_eq_false', decide_eq_true_eq, decide_eq_false_iff_not] at *; omega)
                    | (simp at *; done)
                    | (exfalso; simp at *; omega)
                    | (simp at *; omega)
               ·refine dp ?_
                refine dp ?_
                iterate 2 (refine dt (hv := by exact O) ?_)
                iterate 2 (refine dg (hv := by exact O) ?_)
                iterate 2 (refine dt (hv := by exact O) ?_)
                refine dgD (fun g124 => ?_) (fun g124 => ?_)
                ·refine dg (hv := by exact O) ?_
                 refine dg (hv := by exact O) ?_
                 refine dg (hv := by exact (sdX (z := 3))) ?_
                 refine dg (hv := by exact sdFA) ?_
                 refine dg (hv := by exact sdL) ?_
                 refine dg (hv := by exact O) ?_
                 iterate 2 (refine dt (hv := by exact O) ?_)
                 refine dgB (fun g132 => ?_) (fun g132 => ?_)
                 ·refine dg (hv := by exact O) ?_
                  refine dg (hv := by exact O) ?_
                  refine dg (hv := by exact (sdX (z := 3))) ?_
                  refine dg (hv := by exact sdFA) ?_
                  refine dg (hv := by exact (by first | exact sdLG | exact sdW)) ?_
                  refine dg (hv := by exact sdFA) ?_
                  refine dg (hv := by exact sdL) ?_
                  refine dg (hv := by exact O) ?_
                  refine dt (hv := by exact O) ?_
                  refine dn ?_
                  refine ck1 (_) (by exact ⟨rfl, trivial⟩) (by exact ⟨rfl, rfl, rfl, rfl, trivial⟩) (by exact ⟨rfl, rfl, rfl, rfl, trivial⟩) ?_
                  first
                    | rfl
                    | (simp only [Bool.not_eq_true', Bool.not_eq_false', decide_eq_true_eq, decide_eq_false_iff_not] at *; omega)
                    | (simp at *; done)
                    | (exfalso; simp at *; omega)
                    | (simp at *; omega)
                 ·refine dp ?_
                  iterate 7 (refine dp ?_)
                  refine dt (hv := by exact O) ?_
                  refine dn ?_
                  refine ck1 (_) (by exact ⟨rfl, trivial⟩) (by exact ⟨rfl, rfl, rfl, rfl, trivial⟩) (by exact ⟨rfl, rfl, rfl, rfl, trivial⟩) ?_
                  first
                    | rfl
                    | (simp only [Bool.not_eq_true', Bool.not_eq_false', decide_eq_true_eq, decide_eq_false_iff_not] at *; omega)
                    | (simp at *; done)
                    | (exfalso; simp at *; omega)
                    | (simp at *; omega)
                ·refine dp ?_
                 iterate 5 (refine dp ?_)
                 iterate 2 (refine dt (hv := by exact O) ?_)
                 iterate 8 (refine dp ?_)
                 refine dt (hv := by exact O) ?_
                 refine dn ?_
                 refine ck1 (_) (by exact ⟨rfl, trivial⟩) (by exact ⟨rfl, rfl, rfl, rfl, trivial⟩) (by exact ⟨rfl, rfl, rfl, rfl, trivial⟩) ?_
                 first
                   | rfl
                   | (simp only [Bool.not_eq_true', Bool.not_eq_false', decide_eq_true_eq, decide_eq_false_iff_not] at *; omega)
                   | (simp at *; done)
                   | (exfalso; simp at *; omega)
                   | (simp at *; omega)
              ·intro q L1 K1 e1 e2 hI
               dsimp only [List.cons_append, List.nil_append] at e1 e2
               subst e1 e2
               subst hI
               refine cB (fun c5 => ?_) (fun c5 => ?_)
               ·cases c5
               ·refine sk ?_
                iterate 2 (refine sq ?_)
                refine J.cut1 (α := Bool) (fun q => q = false) (fun q => [(158, .bool q)]) [(1, _), (3, _), (6, _)] (fun q => []) [(500021, _), (1, _)] (by exact ⟨rfl, rfl, rfl, trivial⟩) (by exact ⟨rfl, rfl, rfl, rfl, trivial⟩) ?_ ?_
                ·refine dr 17 [500021, 1] [0, 1, 2, 3, 4, 5, 6, 7, 8, 9, 10, 11, 12, 13, 14, 15, 16] ?_
                 iterate 3 (refine dt (hv := by exact O) ?_)
                 refine dgD (fun g144 => ?_) (fun g144 => ?_)
                 ·refine dg (hv := by exact sdFA) ?_
                  refine dg (hv := by exact sdL) ?_
                  refine dg (hv := by exact O) ?_
                  iterate 2 (refine dt (hv := by exact O) ?_)
                  refine dgD (fun g149 => ?_) (fun g149 => ?_)
                  ·refine dg (hv := by exact O) ?_
                   refine dg (hv := by exact O) ?_
                   refine dg (hv := by exact (sdX (z := 3))) ?_
                   refine dg (hv := by exact sdFA) ?_
                   refine dg (hv := by exact (by first | exact sdLG | exact sdW)) ?_
                   refine dg (hv := by exact sdFA) ?_
                   refine dg (hv := by exact sdL) ?_
                   refine dg (hv := by exact O) ?_
                   refine dt (hv := by exact O) ?_
                   refine dn ?_
                   refine ck1 (_) (by exact ⟨rfl, trivial⟩) (by exact ⟨rfl, rfl, rfl, trivial⟩) (by exact ⟨rfl, rfl, rfl, rfl, trivial⟩) ?_
                   first
                     | rfl
                     | (simp only [Bool.not_eq_true', Bool.not_eq_false', decide_eq_true_eq, decide_eq_false_iff_not] at *; omega)
                     | (simp at *; done)
                     | (exfalso; simp at *; omega)
                     | (simp at *; omega)
                  ·refine dp ?_
                   iterate 7 (refine dp ?_)
                   refine dt (hv := by exact O) ?_
                   refine dn ?_
                   refine ck1 (_) (by exact ⟨rfl, trivial⟩) (by exact ⟨rfl, rfl, rfl, trivial⟩) (by exact ⟨rfl, rfl, rfl, rfl, trivial⟩) ?_
                   first
                     | rfl
                     | (simp only [Bool.not_eq_true', Bool.not_eq_false', decide_eq_true_eq, decide_eq_false_iff_not] at *; omega)
                     | (simp at *; done)
                     | (exfalso; simp at *; omega)
                     | (simp at *; omega)
                 ·refine dp ?_
                  iterate 2 (refine dp ?_)
                  iterate 2 (refine dt (hv := by exact O) ?_)
                  iterate 8 (refine dp ?_)
                  refine dt (hv := by exact O) ?_
                  refine dn ?_
                  refine ck1 (_) (by exact ⟨rfl, trivial⟩) (by exact ⟨rfl, rfl, rfl, trivial⟩) (by exact ⟨rfl, rfl, rfl, rfl, trivial⟩) ?_
                  first
                    | rfl
                    | (simp only [Bool.not_eq_true', Bool.not_eq_false', decide_eq_true_eq, decide_eq_false_iff_not] at *; omega)
                    | (simp at *; done)
                    | (exfalso; simp at *; omega)
                    | (simp at *; omega)
                ·intro q L1 K1 e1 e2 hI
                 dsimp only [List.cons_append, List.nil_append] at e1 e2
                 subst e1 e2
                 subst hI
                 refine cB (fun c6 => ?_) (fun c6 => ?_)
                 ·cases c6
                 ·refine sk ?_
                  refine rg ?_
                  refine st (h := sdFA) ?_
                  refine st (h := sdL) ?_
                  refine st (h := O) ?_
                  refine st (h := (sdX (z := 1))) ?_
                  refine st (h := (by first | exact sdLG | exact sdW)) ?_
                  refine st (h := O) ?_
                  refine nl ?_
                  refine bk ?_
                  refine rg ?_
                  refine st (h := O) ?_
                  refine st (h := sdA) ?_
                  refine st (h := O) ?_
                  refine nl ?_
                  refine bk1 (i + 1) (by exact ⟨rfl, rfl, trivial⟩) (by exact ⟨rfl, rfl, trivial⟩) (by exact ⟨rfl, rfl, rfl, rfl, trivial⟩) ?_ ?_
                  · omega
                  · exact hil
           ·refine ex ?_
            refine sq ?_
            refine rg ?_
            refine cl (h := by exact fun ι hV hl => wakes25_C _) ?_
            refine st (h := O) ?_
            refine nl ?_
            repeat refine J.dropF ?_
            first
              | exact rt ⟨rfl, rfl⟩
              | (exfalso; simp at *; done)
              | (exfalso; omega)
              | (exfalso; simp at *; omega)
end Go.Proofs.Ytnkddjdmpnghmaa.Am
namespace Go.Proofs.Ytnkddjdmpnghmaa.Am
set_option linter.unusedSimpArgs false
set_option linter.unusedVariables false
set_option maxRecDepth 100000
set_option maxHeartbeats 4000000
open Go Go.RowKit
def okP : List Pc → Int → Option Int
  | [], e => some e
  | p :: ps, e => if p.x < e ∨ p.width < 0 ∨ p.glyphs.length = 0 then none else okP ps (p.x + p.width)
theorem okP_snoc (p : Pc) : ∀ (ps : List Pc) (e : Int), okP (ps ++ [p]) e = (okP ps e).bind fun e' => okP [p] e'
  | [], e => rfl
  | q :: ps, e => by
    show (if _ then none else okP (ps ++ [p]) _) = _
    rw [okP]
    split
    · rfl
    · exact okP_snoc p ps _
theorem okP_add {ps : List Pc} {p : Pc} {e : Int} (h : okP ps 0 = some e) (h1 : e ≤ p.x) (h2 : 0 ≤ p.width) (h3 : 0 < p.glyphs.length) : okP (ps ++ [p]) 0 = some (p.x + p.width) := by
  rw [okP_snoc, h]
  show okP [p] e = _
  rw [okP, if_neg (by omega)]
  rfl
theorem walk_ok {gs : List Int} {l : List Item} {x0 : Int} (h0 : 0 ≤ x0) (hg : ∀ j, 0 ≤ ints gs j) (hok : ∀ i, i < l.length → (at_ l i).ok = true) : ∀ d, d ≤ l.length → ∃ e, okP (walkS gs l x0 d).ps 0 = some e ∧ e ≤ (walkS gs l x0 d).x
  | 0, _ => ⟨0, rfl, h0⟩
  | d + 1, hd => by
    obtain ⟨e, h1, h2⟩ := walk_ok h0 hg hok d (by omega)
    have ho := hok d (by omega)
    simp only [Item.ok, decide_eq_true_eq] at ho
    rw [walkS, stepS]
    generalize walkS gs l x0 d = s at *
    generalize at_ l d = x at *
    by_cases hk : x.kind = 1
    · rw [if_pos hk]
      dsimp only
      by_cases hgl : 0 < x.glyphs.length
      · rw [if_pos hgl]
        exact ⟨_, okP_add h1 h2 ho.2.2.1 hgl, Int.le_refl _⟩
      · rw [if_neg hgl]
        exact ⟨e, h1, by omega⟩
    · rw [if_neg hk]
      split
      · have := hg s.k
        exact ⟨e, h1, by dsimp only; omega⟩
      · exact ⟨e, h1, h2⟩
theorem fl_step {t S s c : Int} (hS : 0 < S) (ht : 0 ≤ t ∧ t ≤ S) (hs : 0 ≤ s) (hc : 0 ≤ c) : 0 ≤ (t * (c + s)) / S - (t * c) / S ∧ (t * (c + s)) / S - (t * c) / S ≤ s := by
  have h1 : t * (c + s) = t * c + t * s := Int.mul_add _ _ _
  have h2 : 0 ≤ t * s := Int.mul_nonneg ht.1 hs
  have h3 : t * s ≤ S * s := Int.mul_le_mul_of_nonneg_right ht.2 hs
  have h4 : (t * c) / S ≤ (t * c + t * s) / S := Int.ediv_le_ediv hS (by omega)
  have h5 : (t * c + t * s) / S ≤ (t * c + S * s) / S := Int.ediv_le_ediv hS (by omega)
  have h6 : (t * c + S * s) / S = (t * c) / S + s := Int.add_mul_ediv_left _ _ (by omega)
  rw [h1]
  omega
/-- each share of no more than all is no more than its part; shares are never negative -/
theorem share_part {xs : List Int} {t : Int} (h : ∀ x ∈ xs, 0 ≤ x ∧ x ≤ 1073741824) (hl : xs.length ≤ 1024) (ht : 0 ≤ t ∧ t ≤ 1099511627776) (h0 : sumL xs xs.length ≠ 0) {j : Nat} (hj : j < xs.length) : 0 ≤ ints (shares t xs xs.length) j ∧ (t ≤ sumL xs xs.length → ints (shares t xs xs.length) j ≤ ints xs j) := by
  have e := gl_sumS h hl
  have hb := gl_sum h _ (Nat.le_refl _)
  have hS : 0 < sumL xs xs.length := by omega
  have hx := h _ (List.mem_of_getElem? (ints_get hj))
  have h1 := gl_sum h j (by omega)
  have h2 := sumL_mono h (j := j + 1) xs.length hj (Nat.le_refl _)
  have hfl : ∀ k, k ≤ xs.length → flS t xs k = (t * sumL xs k) / sumL xs xs.length := fun k hk => by
    have g1 := gl_sum h k hk
    have g2 := sumL_mono h (j := k) xs.length hk (Nat.le_refl _)
    rw [flS, e]
    dsimp only
    rw [floorS, if_neg (by omega), keepS]
    have q1 : 0 ≤ (t * sumL xs k) / sumL xs xs.length := Int.ediv_nonneg (Int.mul_nonneg ht.1 g1.1) (by omega)
    have q2 : (t * sumL xs k) / sumL xs xs.length ≤ (t * sumL xs xs.length) / sumL xs xs.length := Int.ediv_le_ediv hS (Int.mul_le_mul_of_nonneg_left g2 ht.1)
    rw [Int.mul_ediv_cancel _ h0] at q2
    rw [if_pos (by omega)]
  have hsh : ints (shares t xs xs.length) j = flS t xs (j + 1) - flS t xs j := by
    simp only [shares, ints, List.getD_eq_getElem?_getD]
    rw [List.getElem?_map, List.getElem?_range hj]
    rfl
  rw [hsh, hfl _ (by omega), hfl _ (by omega), sumL]
  refine ⟨?_, fun hle => (fl_step hS ⟨ht.1, hle⟩ hx.1 h1.1).2⟩
  have hm : t * sumL xs j ≤ t * (sumL xs j + ints xs j) := Int.mul_le_mul_of_nonneg_left (by omega) ht.1
  have := Int.ediv_le_ediv hS hm
  omega
theorem gluL_get {f g : Item → Int} {l : List Item} {i : Nat} (hfg : ∀ j, (at_ l j).kind = 2 → f (at_ l j) ≤ g (at_ l j)) : ∀ d j, ints (gluL f l i d) j ≤ ints (gluL g l i d) j
  | 0, j => by simp [gluL, ints]
  | d + 1, j => by
    have ih := gluL_get hfg (i := i) d j
    have hl := gluL_len f g l i d
    rw [gluL, gluL]
    by_cases hk : (at_ l (i + d)).kind = 2
    · rw [if_pos hk, if_pos hk]
      rcases Nat.lt_or_ge j (gluL f l i d).length with h | h
      · simp only [ints, List.getD_eq_getElem?_getD] at ih ⊢
        rw [List.getElem?_append_left h, List.getElem?_append_left (by omega)]
        exact ih
      · simp only [ints, List.getD_eq_getElem?_getD]
        rw [List.getElem?_append_right h, List.getElem?_append_right (by omega), ← hl]
        rcases Nat.eq_zero_or_pos (j - (gluL f l i d).length) with h0 | h0
        · rw [h0]
          exact hfg _ hk
        · rw [List.getElem?_eq_none (by simp; omega), List.getElem?_eq_none (by simp; omega)]
          exact Int.le_refl _
    · rw [if_neg hk, if_neg hk, List.append_nil, List.append_nil]
      exact ih
theorem ints_none {xs : List Int} {j : Nat} (h : xs.length ≤ j) : ints xs j = 0 := by simp [ints, List.getD_eq_getElem?_getD, List.getElem?_eq_none h]
theorem ints_addTo {ws s : List Int} {sg : Int} {j : Nat} (h : j < ws.length) : ints (addTo ws s sg ws.length) j = ints ws j + sg * ints s j := by
  simp only [addTo, ints, List.getD_eq_getElem?_getD]
  rw [List.getElem?_map, List.getElem?_range h]
  simp only [Option.map_some, Option.getD_some]
  rw [if_pos h]
theorem glue_pos {l : List Item} (hg : goodL l = true) {a1 b : Nat} (hb : b < l.length) {w ag : Int} (hw : 1 ≤ w ∧ w ≤ 1073741824) (hsh : ∀ j, (at_ l j).kind = 2 → (at_ l j).shrink ≤ (at_ l j).width) : ∀ j, 0 ≤ ints (glueD l a1 b w ag).1 j := by
  intro j
  have hlen := good_len hg
  have hfl := fromA_le l a1 b
  have oW : ∀ x ∈ glW l a1 b, 0 ≤ x ∧ x ≤ 1073741824 := gl_mem_ok hg (f := Item.width) (i := fromA l a1 b) (d := b - fromA l a1 b) (by omega) okW
  have oY : ∀ x ∈ glY l a1 b, 0 ≤ x ∧ x ≤ 1073741824 := gl_mem_ok hg (f := Item.stretch) (i := fromA l a1 b) (d := b - fromA l a1 b) (by omega) okY
  have oZ : ∀ x ∈ glZ l a1 b, 0 ≤ x ∧ x ≤ 1073741824 := gl_mem_ok hg (f := Item.shrink) (i := fromA l a1 b) (d := b - fromA l a1 b) (by omega) okZ
  have eY := glY_sum l a1 b
  have eZ := glZ_sum l a1 b
  have nY : (glY l a1 b).length ≤ 1024 := Nat.le_trans (gluL_le Item.stretch l (fromA l a1 b) (b - fromA l a1 b)) (by omega)
  have nZ : (glZ l a1 b).length ≤ 1024 := Nat.le_trans (gluL_le Item.shrink l (fromA l a1 b) (b - fromA l a1 b)) (by omega)
  have lY : (glY l a1 b).length = (glW l a1 b).length := gluL_len _ _ _ _ _
  have lZ : (glZ l a1 b).length = (glW l a1 b).length := gluL_len _ _ _ _ _
  have hm := mW_bd hg (a1 := a1) hb
  obtain ⟨hy, hz⟩ := mYZ hg (a1 := a1) hb
  have hzw : ints (glZ l a1 b) j ≤ ints (glW l a1 b) j := gluL_get hsh _ _
  rcases Nat.lt_or_ge j (glW l a1 b).length with hj | hj
  · have hwj := oW _ (List.mem_of_getElem? (ints_get (xs := glW l a1 b) hj))
    unfold glueD freeD
    split
    · rename_i h
      rw [gl_share oY nY (by unfold inB; omega) (by omega)]
      have := (share_part oY nY (t := w - mW l a1 b) (by omega) (by omega) (j := j) (by omega)).1
      show 0 ≤ ints (addTo _ _ _ _) j
      rw [ints_addTo hj]
      have e : ints (shares (w - mW l a1 b) (glY l a1 b) (glY l a1 b).length) j = ints (shares (w - mW l a1 b) (glY l a1 b) (glY l a1 b).length) j := rfl
      omega
    · split
      · rename_i h1 h2
        rcases Int.lt_or_le 0 (mZ l a1 b) with hz0 | hz0
        · rw [gl_share oZ nZ (by unfold inB; omega) (by omega)]
          have := (share_part oZ nZ (t := min (-(w - mW l a1 b)) (mZ l a1 b)) (by omega) (by omega) (j := j) (by omega)).2 (by omega)
          show 0 ≤ ints (addTo _ _ _ _) j
          rw [ints_addTo hj]
          have e : ints (glZ l a1 b) j = ints (glZ l a1 b) j := rfl
          omega
        · rw [gl_noshare oZ nZ (by omega)]
          exact hwj.1
      · exact hwj.1
  · rw [ints_none (by rw [glueD_len]; exact hj)]
    exact Int.le_refl _
theorem one_apart {l : List Item} (hg : goodL l = true) {a1 b : Nat} (hb : b < l.length) {w ag : Int} (hw : 1 ≤ w ∧ w ≤ 1073741824) (hsh : ∀ j, (at_ l j).kind = 2 → (at_ l j).shrink ≤ (at_ l j).width) : ∃ e, okP (oneD l a1 b w ag).pieces 0 = some e ∧ e ≤ (oneD l a1 b w ag).width := by
  have hfl := fromA_le l a1 b
  have hpl := part_len (l := l) (f := fromA l a1 b) (b := b) (by omega)
  have h0 : 0 ≤ beginD (w - mW l a1 b) ag := by
    unfold beginD
    split
    · omega
    · split
      · omega
      · split <;> omega
  obtain ⟨e, h1, h2⟩ := walk_ok (l := (l.drop (fromA l a1 b)).take (b - fromA l a1 b)) h0 (glue_pos hg (a1 := a1) hb (ag := ag) hw hsh) (fun i hi => by rw [at_part (by omega) (by omega)]; exact good_ok hg (by omega)) _ (Nat.le_refl _)
  have ho := good_ok hg hb
  simp only [Item.ok, decide_eq_true_eq] at ho
  unfold oneD lineS
  dsimp only
  split
  · dsimp only
    split
    · rename_i hgl
      exact ⟨_, okP_add h1 h2 ho.2.2.1 hgl, Int.le_refl _⟩
    · exact ⟨e, h1, by omega⟩
  · exact ⟨e, h1, h2⟩
end Go.Proofs.Ytnkddjdmpnghmaa.Am
