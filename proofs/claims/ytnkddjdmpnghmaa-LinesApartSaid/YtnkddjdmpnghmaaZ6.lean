/- Rules for walking Go functions, and contracts proved by them (T20, T21). -/
import Derived.Test.YtnkddjdmpnghmaaZ5
import Derived.Below
import Derived.Laws.OwnMore
import Derived.KernelRfl
import Derived.Laws.Bits
import Derived.Laws.Strings
import Derived.Laws.Entries
import Derived.IntWalk
import Derived.Laws.Cells
import Derived.Laws.Append
import Derived.Laws.BytesString
import Derived.Laws.BytesArg
import Derived.Tactics
import Derived.Orders
import Derived.OrdersHeld
import Derived.Test.YtnkddjdmpnghmaaChecked
import Derived.Scope
import Derived.Laws.BitsLemmas
import Derived.Laws.Small
import Derived.Laws.Concat
import Derived.ChangeKeysEq
import Derived.ChangeArms
import Derived.DataReads
import Derived.WideShapes
import Derived.SizedLaws
import Derived.OpenShut
namespace Go.Proofs.Ytnkddjdmpnghmaa.Am
set_option linter.unusedSimpArgs false
set_option linter.unusedVariables false
set_option maxRecDepth 100000
set_option maxHeartbeats 4000000
open Go Go.RowKit
theorem okP_split : ∀ (ps qs : List Pc) (e : Int), okP (ps ++ qs) e = (okP ps e).bind (okP qs)
  | [], qs, e => rfl
  | p :: ps, qs, e => by
    show (if _ then none else okP (ps ++ qs) _) = _
    rw [okP]
    split
    · rfl
    · exact okP_split ps qs _
theorem okP_mono : ∀ (ps : List Pc) (e e' : Int), okP ps e = some e' → e ≤ e'
  | [], e, e', h => by simp only [okP, Option.some.injEq] at h; omega
  | p :: ps, e, e', h => by
    rw [okP] at h
    split at h
    · cases h
    · have := okP_mono ps _ _ h
      omega
theorem okP_at {ps : List Pc} {e : Int} (h : okP ps 0 = some e) {k : Nat} {p : Pc} (hp : ps[k]? = some p) : ∃ ek, okP (ps.take k) 0 = some ek ∧ 0 ≤ ek ∧ ek ≤ p.x ∧ 0 ≤ p.width ∧ 0 < p.glyphs.length ∧ p.x + p.width ≤ e ∧ okP (ps.take (k + 1)) 0 = some (p.x + p.width) := by
  have hk := (List.getElem?_eq_some_iff.1 hp).1
  have e1 : ps = ps.take k ++ (p :: ps.drop (k + 1)) := by
    have := List.getElem?_eq_some_iff.1 hp
    rw [← this.2, ← List.drop_eq_getElem_cons hk, List.take_append_drop]
  have h2 := h
  rw [e1, okP_split] at h2
  cases h3 : okP (ps.take k) 0 with
  | none => rw [h3] at h2; cases h2
  | some ek =>
    rw [h3] at h2
    have h4 : okP (p :: ps.drop (k + 1)) ek = some e := h2
    rw [okP] at h4
    split at h4
    · cases h4
    · have := okP_mono _ _ _ h4
      have h5 := okP_mono _ _ _ h3
      refine ⟨ek, rfl, h5, by omega, by omega, by omega, this, ?_⟩
      rw [List.take_add_one, hp]
      show okP (ps.take k ++ [p]) 0 = _
      exact okP_add h3 (by omega) (by omega) (by omega)
theorem RItN.at_ {F : Mem} {la : Option Addr} {lc : Nat} {l : List Item} (h : RItN F (.slice la l.length lc) l) {i : Nat} (hi : i < l.length) : ∃ b o g, la = some ⟨b, o, none⟩ ∧ lookN F ⟨b, o + (i : Int).toNat * 11, none⟩ 11 = some ((Am.at_ l i).cells g) ∧ RGl F g (Am.at_ l i).glyphs := by
  rcases h with (⟨b, o, c, e, _, h⟩ | ⟨_, rfl⟩) | ⟨_, _, _, _, rfl⟩
  · simp only [Value.slice.injEq] at e
    obtain ⟨g, h1, h2⟩ := h i _ (at_get hi)
    exact ⟨b, o, g, e.1, h1, h2⟩
  · simp at hi
  · simp at hi
theorem law6_C (F : Mem) (x : Ask) {la aa : Option Addr} (lc ac : Nat) (hL : RItN F (.slice la x.l.length lc) x.l) (hA : RIx F aa x.ats) (hgl : ∀ i ∈ x.l, i.glyphs.length * 8 ≤ 140737488355328) : C0 Try.prog 6 [x.v la lc aa ac] F (.bool true) := by
  have h1 : PlA la := by
    obtain ⟨a, c, h, e⟩ := hL.opl
    simp only [Value.slice.injEq] at e
    rw [e.1]; exact h
  have h2 := hA.pl
  unfold Ask.v
  refine C.go hT Try.func6 Try.ntmps6 ?_
  refine sq ?_
  refine rg ?_
  refine bx (hL := by simp [ntL, ntV, nt2, argL, nt1_i, nt1_b, h1.nt, h2.nt]) ?_
  refine JL.flatU (u := 1) [] ?_ (hp := x.pl h1 h2 lc ac)
  refine st (h := O) ?_
  refine nl ?_
  iterate 2 (refine sq ?_)
  refine rg ?_
  refine st (h := sdLN) ?_
  refine cl (h := by exact fun ι hV hl => (large25_C _ x h1 h2 lc ac).ofR (arg1 (x.rV h1 h2 lc ac ι))) ?_
  refine nl ?_
  refine cB (fun c0 => ?_) (fun c0 => ?_)
  ·refine sq ?_
   refine rg ?_
   refine cl (h := by exact fun ι hV hl => wakes25_C _) ?_
   refine st (h := O) ?_
   refine nl ?_
   repeat refine J.dropF ?_
   first
     | exact rt ⟨rfl, rfl⟩
     | (exfalso; omega)
  ·have hlen : x.l.length ≤ 120 ∧ x.ats.length ≤ 240 := by simp only [bigQ, decide_eq_false_iff_not] at c0; omega
   refine sk ?_
   iterate 2 (refine sq ?_)
   refine rg ?_
   refine st (h := O) ?_
   refine nl ?_
   refine bl ?_
   refine J.loop1 (α := Nat) (fun i => i ≤ x.l.length ∧ ∀ j, j < i → (at_ x.l j).kind = 2 → (at_ x.l j).shrink ≤ (at_ x.l j).width) (fun i => [(3, .int .i64 i)]) [(1, _)] (fun i => []) [(1, _)] (fun i => x.l.length - i) (0) (by exact ⟨rfl, trivial⟩) (by exact ⟨rfl, trivial⟩) (by exact ⟨rfl, rfl, trivial⟩) ?_ ?_
   · exact ⟨Nat.zero_le _, fun j hj => absurd hj (Nat.not_lt_zero _)⟩
   ·intro i L1 K1 e1 e2 hI
    dsimp only [apV, apR, List.cons_append, List.nil_append] at e1 e2
    subst e1 e2
    obtain ⟨hi, hsh⟩ := hI
    iterate 2 (refine sq ?_)
    refine rg ?_
    refine st (h := O) ?_
    refine st (h := sdFA) ?_
    refine st (h := sdL) ?_
    iterate 2 (refine st (h := O) ?_)
    refine nl ?_
    refine cD (fun c1 => ?_) (fun c1 => ?_)
    ·have hil : i < x.l.length := by omega
     obtain ⟨b, o, g9, rfl, hg9, _⟩ := hL.at_ hil
     have k0 : look F ⟨b, o + (i : Int).toNat * 11 + 0, none⟩ = some (.int .i64 (at_ x.l i).kind) := lookN_at hg9 0 rfl
     have k1 : look F ⟨b, o + (i : Int).toNat * 11 + 1, none⟩ = some (.int .i64 (at_ x.l i).width) := lookN_at hg9 1 rfl
     have k3 : look F ⟨b, o + (i : Int).toNat * 11 + 3, none⟩ = some (.int .i64 (at_ x.l i).shrink) := lookN_at hg9 3 rfl
     refine sk ?_
     refine sq ?_
     refine bl ?_
     refine sq ?_
     refine dr 22 [1] [0, 1, 2, 3, 4, 5, 6, 7, 8, 9, 10, 11, 12, 13, 14, 15, 16, 17, 18, 19, 20, 21] ?_
     refine dt (hv := by exact sdFA) ?_
     refine dt (hv := by exact sdL) ?_
     refine dt (hv := by exact O) ?_
     refine dt (hv := by exact (sdX (z := 11))) ?_
     refine dt (hv := by exact sdFA) ?_
     refine dt (hv := by exact (by first | exact sdLG | exact sdW)) ?_
     iterate 2 (refine dt (hv := by exact O) ?_)
     refine dgD (fun g27 => ?_) (fun g27 => ?_)
     ·refine dg (hv := by exact sdFA) ?_
      refine dg (hv := by exact sdL) ?_
      refine dg (hv := by exact O) ?_
      refine dg (hv := by exact (sdX (z := 11))) ?_
      refine dg (hv := by exact sdFA) ?_
      refine dg (hv := by exact (by first | exact sdLG | exact sdW)) ?_
      refine dg (hv := by exact sdFA) ?_
      refine dg (hv := by exact sdL) ?_
      refine dg (hv := by exact O) ?_
      refine dg (hv := by exact (sdX (z := 11))) ?_
      refine dg (hv := by exact sdFA) ?_
      refine dg (hv := by exact (by first | exact sdLG | exact sdW)) ?_
      refine dg (hv := by exact O) ?_
      refine dt (hv := by exact O) ?_
      refine dn ?_
      refine cD (fun c2 => ?_) (fun c2 => ?_)
      ·refine sq ?_
       refine rg ?_
       refine cl (h := by exact fun ι hV hl => wakes25_C _) ?_
       refine st (h := O) ?_
       refine nl ?_
       repeat refine J.dropF ?_
       first
         | exact rt ⟨rfl, rfl⟩
         | (exfalso; omega)
      ·refine sk ?_
       refine bk ?_
       refine rg ?_
       refine st (h := O) ?_
       refine st (h := sdA) ?_
       refine st (h := O) ?_
       refine nl ?_
       refine bk1 (i + 1) (by exact ⟨rfl, trivial⟩) (by exact ⟨rfl, trivial⟩) (by exact ⟨rfl, rfl, trivial⟩) ?_ ?_
       · omega
       · refine ⟨by omega, fun j hj hk => ?_⟩
         rcases Nat.lt_or_ge j i with h | h
         · exact hsh j h hk
         · obtain rfl : j = i := by omega
           first
             | exact absurd hk (by assumption)
             | omega
     ·refine dp ?_
      iterate 12 (refine dp ?_)
      refine dt (hv := by exact O) ?_
      refine dn ?_
      refine cF ?_
      refine sk ?_
      refine bk ?_
      refine rg ?_
      refine st (h := O) ?_
      refine st (h := sdA) ?_
      refine st (h := O) ?_
      refine nl ?_
      refine bk1 (i + 1) (by exact ⟨rfl, trivial⟩) (by exact ⟨rfl, trivial⟩) (by exact ⟨rfl, rfl, trivial⟩) ?_ ?_
      · omega
      · refine ⟨by omega, fun j hj hk => ?_⟩
        rcases Nat.lt_or_ge j i with h | h
        · exact hsh j h hk
        · obtain rfl : j = i := by omega
          first
            | exact absurd hk (by assumption)
            | omega
    ·obtain rfl : i = x.l.length := by omega
     have hsh2 : ∀ j, (at_ x.l j).kind = 2 → (at_ x.l j).shrink ≤ (at_ x.l j).width := fun j hk => by
       rcases Nat.lt_or_ge j x.l.length with h | h
       · exact hsh j h hk
       · have e : at_ x.l j = Item.dflt := by simp [at_, List.getD_eq_getElem?_getD, List.getElem?_eq_none h]
         rw [e] at hk
         cases hk
     refine ex ?_
     refine sq ?_
     refine J.weak (L0 := [(1, _)]) (K0 := [(1, _)]) (by exact ⟨rfl, trivial⟩) (by exact ⟨rfl, rfl, trivial⟩) ?_
     refine drK 17 [1] [(1, _)] [0, 1, 4, 5, 7, 8, 9, 10, 5009] ?_
     refine dt (hv := by exact sdFA) ?_
     refine dt (hv := by exact sdL) ?_
     refine dt (hv := by exact sdFA) ?_
     refine dt (hv := by exact sdL) ?_
     refine dt (hv := by exact sdFA) ?_
     refine dt (hv := by exact sdL) ?_
     refine dt (hv := by exact sdFA) ?_
     refine dt (hv := by exact sdL) ?_
     refine JD.alt (i := 2) (j := 3) [1003, 1006, 1011, 12, 13, 14, 15, 16] [1002, 1006, 1011, 12, 13, 14, 15, 16] ?_ ?_
     ·refine jclC (hkp := by first | exact Kept.all | exact Kept.k0 | exact Kept.kY | exact Kept.kYY | exact Kept.kY3) (h := by exact fun ι hV hl => (CopyN_C _ _ x.l (hL.le hl) (by omega) hgl).ofR (arg1 (h1.rV ι _ _))) ?_
      intro u1 Y1 hQ1 hv1 hp1 hN1
      obtain ⟨hs1, hcap1, hI1⟩ := hQ1
      have hI1 := hI1 _ hN1.rows
      obtain ⟨ca, cc, hca, rfl⟩ := hI1.opl
      refine dsl (hL := by first | (simp [ntL, ntV, nt2, argL, nt1_i, nt1_b, nt1_o, nt1_p, h1.nt, h2.nt, hca.nt]; done) | (simp [ntL, ntV, nt2, argL, nt1_i, nt1_b, nt1_o, nt1_p, h1.nt, h2.nt]; done)) ?_
      refine dapA0 1 500021 47 ((hA.le hN1.le).app ac) (ivs_pl _) ?_ (hL := by simp [ntL, ntV, nt2, argL, nt1_i, nt1_b, nt1_o, nt1_p, h1.nt, h2.nt, hca.nt])
      intro cap21 hc21 hd21
      refine dclC (hkp := by first | exact Kept.all | exact Kept.k0 | exact Kept.kY | exact Kept.kYY | exact Kept.kY3) (h := by exact fun ι hV hl => (Set_C _ _ (some ⟨ι 500021, 0, none⟩) cap21 x.l x.ats x.w x.ag (hI1.le hl) (hV.intsX (t := 500021) rfl rfl (by omega)) hcap1 hgl (by omega)).ofR (argC (hca.rV ι _ _) rfl)) ?_
      intro u2 Y2 hQ2 hv2 hp2 hN2
      rcases setD_cases x.l x.ats x.w x.ag with ⟨e, hg, hm, hp, hlast, hch⟩ | ⟨e1, e2⟩
      · rw [e] at hQ2
        obtain ⟨lv, hu, hlv, hR2⟩ := hQ2
        dsimp only at hu hR2
        have hS2 := hR2 _ hN2.rows
        obtain ⟨pa, pc, hpa, e3, h63, hlr⟩ := ln_at hS2
        have hnl : (linesN x.l x.ats x.w x.ag x.ats.length).length = x.ats.length := by simp [linesN]
        rw [hnl] at e3
        subst e3
        subst hu
        iterate 5 (refine dt (hv := by exact O) ?_)
        refine dn ?_
        iterate 2 (refine sq ?_)
        refine rg ?_
        iterate 2 (refine st (h := O) ?_)
        refine nl ?_
        refine cN (fun c3 => ?_) (fun c3 => ?_)
        ·try (exact absurd rfl c3)
         all_goals
           refine sq ?_
           refine rg ?_
           refine cl (h := by exact fun ι hV hl => wakes25_C _) ?_
           refine st (h := O) ?_
           refine nl ?_
           repeat refine J.dropF ?_
           first
             | exact rt ⟨rfl, rfl⟩
             | (exfalso; omega)
        ·try (exact absurd c3 e2)
         all_goals
           refine sk ?_
           iterate 2 (refine sq ?_)
           refine rg ?_
           refine st (h := O) ?_
           refine nl ?_
           refine bl ?_
           refine J.loop1 (α := Nat) (fun i => i ≤ x.ats.length) (fun i => [(6, .int .i64 i)]) [(4, _)] (fun i => []) [(500021, _), (1, _)] (fun i => x.ats.length - i) (0) (by exact ⟨rfl, trivial⟩) (by exact ⟨rfl, trivial⟩) (by exact ⟨rfl, rfl, rfl, rfl, trivial⟩) ?_ ?_
           · exact Nat.zero_le _
           ·intro i L1 K1 e1 e2 hI
            dsimp only [apV, apR, List.cons_append, List.nil_append] at e1 e2
            subst e1 e2
            iterate 2 (refine sq ?_)
            refine rg ?_
            iterate 4 (refine st (h := O) ?_)
            refine nl ?_
            refine cD (fun c4 => ?_) (fun c4 => ?_)
            ·have hil : i < x.ats.length := by omega
             have hln := hch i hil
             have hlt := lineB_facts hln
             have hm2 := hm
             simp only [mayB, decide_eq_true_eq] at hm2
             obtain ⟨ho, f1, f2, f3, f4, f5, hms⟩ := ln_facts hm hln
             obtain ⟨lb, lo, y, yp, ypc, rfl, hy, h3, hyp, hyr⟩ := hlr i (by rw [hnl]; exact hil)
             obtain rfl : lnAt x.l x.ats x.w x.ag i = y := by rw [linesN_get hil] at hy; exact Option.some.inj hy
             obtain ⟨ef, hok, hfw⟩ := one_apart hg (a1 := (prevA x.ats i + 1).toNat) (b := (ints x.ats i).toNat) (by omega) (ag := x.ag) ⟨hm2.1, hm2.2.1⟩ hsh2
             have hmw := mW_bd hg (a1 := (prevA x.ats i + 1).toNat) (b := (ints x.ats i).toNat) (by omega)
             have hmz := (mYZ hg (a1 := (prevA x.ats i + 1).toNat) (b := (ints x.ats i).toNat) (by omega)).2
             rw [show oneD x.l (prevA x.ats i + 1).toNat (ints x.ats i).toNat x.w x.ag = lnAt x.l x.ats x.w x.ag i from rfl] at hok hfw
             have hwb : (lnAt x.l x.ats x.w x.ag i).width ≤ 1125899906842624 := by
               by_cases hq : mZ x.l (prevA x.ats i + 1).toNat (ints x.ats i).toNat < -(x.w - mW x.l (prevA x.ats i + 1).toNat (ints x.ats i).toNat)
               · have := f2 hq; omega
               · have := f1 hq; omega
             generalize lnAt x.l x.ats x.w x.ag i = y at *
             rw [show lo + i * 3 = lo + (i : Int).toNat * 3 from rfl] at h3
             have k0 : look ((F.add Y1).add Y2) ⟨lb, lo + (i : Int).toNat * 3 + 0, none⟩ = some (.int .i64 y.width) := lookN_at h3 0 rfl
             have k2 : look ((F.add Y1).add Y2) ⟨lb, lo + (i : Int).toNat * 3 + 2, none⟩ = some (.slice yp y.pieces.length ypc) := lookN_at h3 2 rfl
             obtain ⟨yp', ypc', hyp', e4, hp63, hpr⟩ := pc_at hyr
             simp only [Value.slice.injEq] at e4
             obtain ⟨rfl, _, rfl⟩ := e4
             refine sk ?_
             refine sq ?_
             refine bl ?_
             refine sq ?_
             refine rg ?_
             refine st (h := O) ?_
             refine nl ?_
             iterate 2 (refine sq ?_)
             refine rg ?_
             refine st (h := O) ?_
             refine nl ?_
             refine bl ?_
             refine J.loop2 (α := Nat) (β := Int) (fun k e => k ≤ y.pieces.length ∧ okP (y.pieces.take k) 0 = some e) (fun k e => [(7, .int .i64 e), (8, .int .i64 k)]) [(4, _), (6, _)] (fun k e => []) [(500021, _), (1, _)] (fun k e => y.pieces.length - k) (0) (0) (by exact ⟨rfl, rfl, trivial⟩) (by exact ⟨rfl, rfl, trivial⟩) (by exact ⟨rfl, rfl, rfl, rfl, trivial⟩) ?_ ?_
             · exact ⟨Nat.zero_le _, rfl⟩
             ·intro k e L1 K1 e1 e2 hI
              dsimp only [apV, apR, List.cons_append, List.nil_append] at e1 e2
              subst e1 e2
              obtain ⟨hk, hek⟩ := hI
              iterate 2 (refine sq ?_)
              refine rg ?_
              iterate 3 (refine st (h := O) ?_)
              refine st (h := (sdX (z := 3))) ?_
              refine st (h := sdFA) ?_
              refine st (h := sdL) ?_
              iterate 2 (refine st (h := O) ?_)
              refine nl ?_
              refine cD (fun c5 => ?_) (fun c5 => ?_)
              ·have hkl : k < y.pieces.length := by omega
               obtain ⟨qb, qo, p, ga, gc, rfl, hpk, hp7, hga, _⟩ := hpr k hkl
               obtain ⟨e5, o1, o2, o3, o4, o5, o6, o7⟩ := okP_at hok hpk
               rw [hek] at o1
               obtain rfl : e = e5 := Option.some.inj o1
               rw [show qo + k * 7 = qo + (k : Int).toNat * 7 from rfl] at hp7
               refine sk ?_
               refine sq ?_
               refine bl ?_
               refine sq ?_
               refine rg ?_
               iterate 2 (refine st (h := O) ?_)
               refine st (h := (sdX (z := 3))) ?_
               refine st (h := sdFA) ?_
               refine st (h := sdL) ?_
               refine st (h := O) ?_
               refine st (h := (sdX (z := 7))) ?_
               refine st (h := sdLN (hv := by exact hp7)) ?_
               refine al (hL := by simp [ntL, ntV, nt2, Pc.cells, nt1_i, nt1_b, nt1_p, nt1_pv, nt1_w, nt1_n, hga.nt]) ?_
               refine so ?_
               refine nl ?_
               iterate 2 (refine sq ?_)
               refine rg ?_
               refine JL.flat (by exact Pc.pl_cells _ (hga.pl _ _)) ?_
               refine st (h := sdFA) ?_
               refine st (h := sdL) ?_
               iterate 3 (refine st (h := O) ?_)
               refine gD (fun g89 => ?_) (fun g89 => ?_)
               ·refine sp ?_
                iterate 2 (refine sp ?_)
                iterate 2 (refine st (h := O) ?_)
                iterate 4 (refine sp ?_)
                refine st (h := O) ?_
                refine nl ?_
                refine cT ?_
                refine sq ?_
                refine rg ?_
                refine st (h := O) ?_
                refine nl ?_
                repeat refine J.dropF ?_
                first
                  | exact rt ⟨rfl, rfl⟩
                  | (exfalso; omega)
               ·refine sg (h := sdFA) ?_
                refine sg (h := sdL) ?_
                refine sg (h := O) ?_
                iterate 2 (refine st (h := O) ?_)
                refine gD (fun g94 => ?_) (fun g94 => ?_)
                ·refine sp ?_
                 iterate 3 (refine sp ?_)
                 refine st (h := O) ?_
                 refine nl ?_
                 refine cT ?_
                 refine sq ?_
                 refine rg ?_
                 refine st (h := O) ?_
                 refine nl ?_
                 repeat refine J.dropF ?_
                 first
                   | exact rt ⟨rfl, rfl⟩
                   | (exfalso; omega)
                ·refine sg (h := sdFA) ?_
                 refine sg (h := sdL) ?_
                 iterate 2 (refine sg (h := O) ?_)
                 refine st (h := O) ?_
                 refine nl ?_
                 refine cD (fun c6 => ?_) (fun c6 => ?_)
                 ·refine sq ?_
                  refine rg ?_
                  refine st (h := O) ?_
                  refine nl ?_
                  repeat refine J.dropF ?_
                  first
                    | exact rt ⟨rfl, rfl⟩
                    | (exfalso; omega)
                 ·refine sk ?_
                  refine rg ?_
                  refine st (h := sdFA) ?_
                  refine st (h := sdL) ?_
                  refine st (h := sdFA) ?_
                  refine st (h := sdL) ?_
                  refine st (h := sdA) ?_
                  refine st (h := O) ?_
                  refine nl ?_
                  refine bk ?_
                  refine rg ?_
                  refine st (h := O) ?_
                  refine st (h := sdA) ?_
                  refine st (h := O) ?_
                  refine nl ?_
                  refine bk2 (k + 1) (_) (by exact ⟨rfl, rfl, trivial⟩) (by exact ⟨rfl, rfl, trivial⟩) (by exact ⟨rfl, rfl, rfl, rfl, trivial⟩) ?_ ?_
                  · omega
                  · exact ⟨by omega, o7⟩
              ·obtain rfl : k = y.pieces.length := by omega
               rw [List.take_length, hok] at hek
               obtain rfl : ef = e := Option.some.inj hek
               refine ex ?_
               refine sq ?_
               refine rg ?_
               iterate 3 (refine st (h := O) ?_)
               refine st (h := (sdX (z := 3))) ?_
               refine st (h := sdFA) ?_
               refine st (h := (by first | exact sdLG | exact sdW)) ?_
               refine st (h := O) ?_
               refine nl ?_
               refine cD (fun c7 => ?_) (fun c7 => ?_)
               ·refine sq ?_
                refine rg ?_
                refine st (h := O) ?_
                refine nl ?_
                repeat refine J.dropF ?_
                first
                  | exact rt ⟨rfl, rfl⟩
                  | (exfalso; omega)
               ·refine sk ?_
                refine bk ?_
                refine rg ?_
                refine st (h := O) ?_
                refine st (h := sdA) ?_
                refine st (h := O) ?_
                refine nl ?_
                refine bk1 (i + 1) (by exact ⟨rfl, trivial⟩) (by exact ⟨rfl, trivial⟩) (by exact ⟨rfl, rfl, rfl, rfl, trivial⟩) ?_ ?_
                · omega
                · exact hil
            ·refine ex ?_
             refine sq ?_
             refine rg ?_
             refine cl (h := by exact fun ι hV hl => wakes25_C _) ?_
             refine st (h := O) ?_
             refine nl ?_
             repeat refine J.dropF ?_
             first
               | exact rt ⟨rfl, rfl⟩
               | (exfalso; omega)
      · obtain ⟨lv, hu, hlv, hR2⟩ := hQ2
        rw [e1] at hR2
        have hS2 := hR2 _ hN2.rows
        obtain ⟨pa, pc, hpa, e3, h63, hlr⟩ := ln_at hS2
        subst e3
        subst hu
        iterate 5 (refine dt (hv := by exact O) ?_)
        refine dn ?_
        iterate 2 (refine sq ?_)
        refine rg ?_
        iterate 2 (refine st (h := O) ?_)
        refine nl ?_
        refine cN (fun c3 => ?_) (fun c3 => ?_)
        ·try (exact absurd rfl c3)
         all_goals
           refine sq ?_
           refine rg ?_
           refine cl (h := by exact fun ι hV hl => wakes25_C _) ?_
           refine st (h := O) ?_
           refine nl ?_
           repeat refine J.dropF ?_
           first
             | exact rt ⟨rfl, rfl⟩
             | (exfalso; omega)
        ·try (exact absurd c3 e2)
         all_goals
           refine sk ?_
           iterate 2 (refine sq ?_)
           refine rg ?_
           refine st (h := O) ?_
           refine nl ?_
           refine bl ?_
           refine J.loop1 (α := Nat) (fun i => i ≤ x.ats.length) (fun i => [(6, .int .i64 i)]) [(4, _)] (fun i => []) [(500021, _), (1, _)] (fun i => x.ats.length - i) (0) (by exact ⟨rfl, trivial⟩) (by exact ⟨rfl, trivial⟩) (by exact ⟨rfl, rfl, rfl, rfl, trivial⟩) ?_ ?_
           · exact Nat.zero_le _
           ·intro i L1 K1 e1 e2 hI
            dsimp only [apV, apR, List.cons_append, List.nil_append] at e1 e2
            subst e1 e2
            iterate 2 (refine sq ?_)
            refine rg ?_
            iterate 4 (refine st (h := O) ?_)
            refine nl ?_
            refine cD (fun c4 => ?_) (fun c4 => ?_)
            ·have hil : i < x.ats.length := by omega
             have hln := hch i hil
             have hlt := lineB_facts hln
             have hm2 := hm
             simp only [mayB, decide_eq_true_eq] at hm2
             obtain ⟨ho, f1, f2, f3, f4, f5, hms⟩ := ln_facts hm hln
             obtain ⟨lb, lo, y, yp, ypc, rfl, hy, h3, hyp, hyr⟩ := hlr i (by rw [hnl]; exact hil)
             obtain rfl : lnAt x.l x.ats x.w x.ag i = y := by rw [linesN_get hil] at hy; exact Option.some.inj hy
             obtain ⟨ef, hok, hfw⟩ := one_apart hg (a1 := (prevA x.ats i + 1).toNat) (b := (ints x.ats i).toNat) (by omega) (ag := x.ag) ⟨hm2.1, hm2.2.1⟩ hsh2
             have hmw := mW_bd hg (a1 := (prevA x.ats i + 1).toNat) (b := (ints x.ats i).toNat) (by omega)
             have hmz := (mYZ hg (a1 := (prevA x.ats i + 1).toNat) (b := (ints x.ats i).toNat) (by omega)).2
             rw [show oneD x.l (prevA x.ats i + 1).toNat (ints x.ats i).toNat x.w x.ag = lnAt x.l x.ats x.w x.ag i from rfl] at hok hfw
             have hwb : (lnAt x.l x.ats x.w x.ag i).width ≤ 1125899906842624 := by
               by_cases hq : mZ x.l (prevA x.ats i + 1).toNat (ints x.ats i).toNat < -(x.w - mW x.l (prevA x.ats i + 1).toNat (ints x.ats i).toNat)
               · have := f2 hq; omega
               · have := f1 hq; omega
             generalize lnAt x.l x.ats x.w x.ag i = y at *
             rw [show lo + i * 3 = lo + (i : Int).toNat * 3 from rfl] at h3
             have k0 : look ((F.add Y1).add Y2) ⟨lb, lo + (i : Int).toNat * 3 + 0, none⟩ = some (.int .i64 y.width) := lookN_at h3 0 rfl
             have k2 : look ((F.add Y1).add Y2) ⟨lb, lo + (i : Int).toNat * 3 + 2, none⟩ = some (.slice yp y.pieces.length ypc) := lookN_at h3 2 rfl
             obtain ⟨yp', ypc', hyp', e4, hp63, hpr⟩ := pc_at hyr
             simp only [Value.slice.injEq] at e4
             obtain ⟨rfl, _, rfl⟩ := e4
             refine sk ?_
             refine sq ?_
             refine bl ?_
             refine sq ?_
             refine rg ?_
             refine st (h := O) ?_
             refine nl ?_
             iterate 2 (refine sq ?_)
             refine rg ?_
             refine st (h := O) ?_
             refine nl ?_
             refine bl ?_
             refine J.loop2 (α := Nat) (β := Int) (fun k e => k ≤ y.pieces.length ∧ okP (y.pieces.take k) 0 = some e) (fun k e => [(7, .int .i64 e), (8, .int .i64 k)]) [(4, _), (6, _)] (fun k e => []) [(500021, _), (1, _)] (fun k e => y.pieces.length - k) (0) (0) (by exact ⟨rfl, rfl, trivial⟩) (by exact ⟨rfl, rfl, trivial⟩) (by exact ⟨rfl, rfl, rfl, rfl, trivial⟩) ?_ ?_
             · exact ⟨Nat.zero_le _, rfl⟩
             ·intro k e L1 K1 e1 e2 hI
              dsimp only [apV, apR, List.cons_append, List.nil_append] at e1 e2
              subst e1 e2
              obtain ⟨hk, hek⟩ := hI
              iterate 2 (refine sq ?_)
              refine rg ?_
              iterate 3 (refine st (h := O) ?_)
              refine st (h := (sdX (z := 3))) ?_
              refine st (h := sdFA) ?_
              refine st (h := sdL) ?_
              iterate 2 (refine st (h := O) ?_)
              refine nl ?_
              refine cD (fun c5 => ?_) (fun c5 => ?_)
              ·have hkl : k < y.pieces.length := by omega
               obtain ⟨qb, qo, p, ga, gc, rfl, hpk, hp7, hga, _⟩ := hpr k hkl
               obtain ⟨e5, o1, o2, o3, o4, o5, o6, o7⟩ := okP_at hok hpk
               rw [hek] at o1
               obtain rfl : e = e5 := Option.some.inj o1
               rw [show qo + k * 7 = qo + (k : Int).toNat * 7 from rfl] at hp7
               refine sk ?_
               refine sq ?_
               refine bl ?_
               refine sq ?_
               refine rg ?_
               iterate 2 (refine st (h := O) ?_)
               refine st (h := (sdX (z := 3))) ?_
               refine st (h := sdFA) ?_
               refine st (h := sdL) ?_
               refine st (h := O) ?_
               refine st (h := (sdX (z := 7))) ?_
               refine st (h := sdLN (hv := by exact hp7)) ?_
               refine al (hL := by simp [ntL, ntV, nt2, Pc.cells, nt1_i, nt1_b, nt1_p, nt1_pv, nt1_w, nt1_n, hga.nt]) ?_
               refine so ?_
               refine nl ?_
               iterate 2 (refine sq ?_)
               refine rg ?_
               refine JL.flat (by exact Pc.pl_cells _ (hga.pl _ _)) ?_
               refine st (h := sdFA) ?_
               refine st (h := sdL) ?_
               iterate 3 (refine st (h := O) ?_)
               refine gD (fun g89 => ?_) (fun g89 => ?_)
               ·refine sp ?_
                iterate 2 (refine sp ?_)
                iterate 2 (refine st (h := O) ?_)
                iterate 4 (refine sp ?_)
                refine st (h := O) ?_
                refine nl ?_
                refine cT ?_
                refine sq ?_
                refine rg ?_
                refine st (h := O) ?_
                refine nl ?_
                repeat refine J.dropF ?_
                first
                  | exact rt ⟨rfl, rfl⟩
                  | (exfalso; omega)
               ·refine sg (h := sdFA) ?_
                refine sg (h := sdL) ?_
                refine sg (h := O) ?_
                iterate 2 (refine st (h := O) ?_)
                refine gD (fun g94 => ?_) (fun g94 => ?_)
                ·refine sp ?_
                 iterate 3 (refine sp ?_)
                 refine st (h := O) ?_
                 refine nl ?_
                 refine cT ?_
                 refine sq ?_
                 refine rg ?_
                 refine st (h := O) ?_
                 refine nl ?_
                 repeat refine J.dropF ?_
                 first
                   | exact rt ⟨rfl, rfl⟩
                   | (exfalso; omega)
                ·refine sg (h := sdFA) ?_
                 refine sg (h := sdL) ?_
                 iterate 2 (refine sg (h := O) ?_)
                 refine st (h := O) ?_
                 refine nl ?_
                 refine cD (fun c6 => ?_) (fun c6 => ?_)
                 ·refine sq ?_
                  refine rg ?_
                  refine st (h := O) ?_
                  refine nl ?_
                  repeat refine J.dropF ?_
                  first
                    | exact rt ⟨rfl, rfl⟩
                    | (exfalso; omega)
                 ·refine sk ?_
                  refine rg ?_
                  refine st (h := sdFA) ?_
                  refine st (h := sdL) ?_
                  refine st (h := sdFA) ?_
                  refine st (h := sdL) ?_
                  refine st (h := sdA) ?_
                  refine st (h := O) ?_
                  refine nl ?_
                  refine bk ?_
                  refine rg ?_
                  refine st (h := O) ?_
                  refine st (h := sdA) ?_
                  refine st (h := O) ?_
                  refine nl ?_
                  refine bk2 (k + 1) (_) (by exact ⟨rfl, rfl, trivial⟩) (by exact ⟨rfl, rfl, trivial⟩) (by exact ⟨rfl, rfl, rfl, rfl, trivial⟩) ?_ ?_
                  · omega
                  · exact ⟨by omega, o7⟩
              ·obtain rfl : k = y.pieces.length := by omega
               rw [List.take_length, hok] at hek
               obtain rfl : ef = e := Option.some.inj hek
               refine ex ?_
               refine sq ?_
               refine rg ?_
               iterate 3 (refine st (h := O) ?_)
               refine st (h := (sdX (z := 3))) ?_
               refine st (h := sdFA) ?_
               refine st (h := (by first | exact sdLG | exact sdW)) ?_
               refine st (h := O) ?_
               refine nl ?_
               refine cD (fun c7 => ?_) (fun c7 => ?_)
               ·refine sq ?_
                refine rg ?_
                refine st (h := O) ?_
                refine nl ?_
                repeat refine J.dropF ?_
                first
                  | exact rt ⟨rfl, rfl⟩
                  | (exfalso; omega)
               ·refine sk ?_
                refine bk ?_
                refine rg ?_
                refine st (h := O) ?_
                refine st (h := sdA) ?_
                refine st (h := O) ?_
                refine nl ?_
                refine bk1 (i + 1) (by exact ⟨rfl, trivial⟩) (by exact ⟨rfl, trivial⟩) (by exact ⟨rfl, rfl, rfl, rfl, trivial⟩) ?_ ?_
                · omega
                · exact hil
            ·refine ex ?_
             refine sq ?_
             refine rg ?_
             refine cl (h := by exact fun ι hV hl => wakes25_C _) ?_
             refine st (h := O) ?_
             refine nl ?_
             repeat refine J.dropF ?_
             first
               | exact rt ⟨rfl, rfl⟩
               | (exfalso; omega)
     ·refine jsl (hkp := by first | exact Kept.all | exact Kept.k0 | exact Kept.kY | exact Kept.kYY | exact Kept.kY3) (hL := by first | (simp [ntL, ntV, nt2, argL, nt1_i, nt1_b, nt1_o, nt1_p, h1.nt, h2.nt, hca.nt]; done) | (simp [ntL, ntV, nt2, argL, nt1_i, nt1_b, nt1_o, nt1_p, h1.nt, h2.nt]; done)) ?_
      refine dclC (hkp := by first | exact Kept.all | exact Kept.k0 | exact Kept.kY | exact Kept.kYY | exact Kept.kY3) (h := by exact fun ι hV hl => (CopyN_C _ _ x.l (hL.le hl) (by omega) hgl).ofR (arg1 (h1.rV ι _ _))) ?_
      intro u1 Y1 hQ1 hv1 hp1 hN1
      obtain ⟨hs1, hcap1, hI1⟩ := hQ1
      have hI1 := hI1 _ hN1.rows
      obtain ⟨ca, cc, hca, rfl⟩ := hI1.opl
      refine dapA0 1 500021 47 ((hA.le hN1.le).app ac) (ivs_pl _) ?_ (hL := by simp [ntL, ntV, nt2, argL, nt1_i, nt1_b, nt1_o, nt1_p, h1.nt, h2.nt, hca.nt])
      intro cap21 hc21 hd21
      refine dclC (hkp := by first | exact Kept.all | exact Kept.k0 | exact Kept.kY | exact Kept.kYY | exact Kept.kY3) (h := by exact fun ι hV hl => (Set_C _ _ (some ⟨ι 500021, 0, none⟩) cap21 x.l x.ats x.w x.ag (hI1.le hl) (hV.intsX (t := 500021) rfl rfl (by omega)) hcap1 hgl (by omega)).ofR (argC (hca.rV ι _ _) rfl)) ?_
      intro u2 Y2 hQ2 hv2 hp2 hN2
      rcases setD_cases x.l x.ats x.w x.ag with ⟨e, hg, hm, hp, hlast, hch⟩ | ⟨e1, e2⟩
      · rw [e] at hQ2
        obtain ⟨lv, hu, hlv, hR2⟩ := hQ2
        dsimp only at hu hR2
        have hS2 := hR2 _ hN2.rows
        obtain ⟨pa, pc, hpa, e3, h63, hlr⟩ := ln_at hS2
        have hnl : (linesN x.l x.ats x.w x.ag x.ats.length).length = x.ats.length := by simp [linesN]
        rw [hnl] at e3
        subst e3
        subst hu
        iterate 5 (refine dt (hv := by exact O) ?_)
        refine dn ?_
        iterate 2 (refine sq ?_)
        refine rg ?_
        iterate 2 (refine st (h := O) ?_)
        refine nl ?_
        refine cN (fun c3 => ?_) (fun c3 => ?_)
        ·try (exact absurd rfl c3)
         all_goals
           refine sq ?_
           refine rg ?_
           refine cl (h := by exact fun ι hV hl => wakes25_C _) ?_
           refine st (h := O) ?_
           refine nl ?_
           repeat refine J.dropF ?_
           first
             | exact rt ⟨rfl, rfl⟩
             | (exfalso; omega)
        ·try (exact absurd c3 e2)
         all_goals
           refine sk ?_
           iterate 2 (refine sq ?_)
           refine rg ?_
           refine st (h := O) ?_
           refine nl ?_
           refine bl ?_
           refine J.loop1 (α := Nat) (fun i => i ≤ x.ats.length) (fun i => [(6, .int .i64 i)]) [(4, _)] (fun i => []) [(500021, _), (1, _)] (fun i => x.ats.length - i) (0) (by exact ⟨rfl, trivial⟩) (by exact ⟨rfl, trivial⟩) (by exact ⟨rfl, rfl, rfl, rfl, trivial⟩) ?_ ?_
           · exact Nat.zero_le _
           ·intro i L1 K1 e1 e2 hI
            dsimp only [apV, apR, List.cons_append, List.nil_append] at e1 e2
            subst e1 e2
            iterate 2 (refine sq ?_)
            refine rg ?_
            iterate 4 (refine st (h := O) ?_)
            refine nl ?_
            refine cD (fun c4 => ?_) (fun c4 => ?_)
            ·have hil : i < x.ats.length := by omega
             have hln := hch i hil
             have hlt := lineB_facts hln
             have hm2 := hm
             simp only [mayB, decide_eq_true_eq] at hm2
             obtain ⟨ho, f1, f2, f3, f4, f5, hms⟩ := ln_facts hm hln
             obtain ⟨lb, lo, y, yp, ypc, rfl, hy, h3, hyp, hyr⟩ := hlr i (by rw [hnl]; exact hil)
             obtain rfl : lnAt x.l x.ats x.w x.ag i = y := by rw [linesN_get hil] at hy; exact Option.some.inj hy
             obtain ⟨ef, hok, hfw⟩ := one_apart hg (a1 := (prevA x.ats i + 1).toNat) (b := (ints x.ats i).toNat) (by omega) (ag := x.ag) ⟨hm2.1, hm2.2.1⟩ hsh2
             have hmw := mW_bd hg (a1 := (prevA x.ats i + 1).toNat) (b := (ints x.ats i).toNat) (by omega)
             have hmz := (mYZ hg (a1 := (prevA x.ats i + 1).toNat) (b := (ints x.ats i).toNat) (by omega)).2
             rw [show oneD x.l (prevA x.ats i + 1).toNat (ints x.ats i).toNat x.w x.ag = lnAt x.l x.ats x.w x.ag i from rfl] at hok hfw
             have hwb : (lnAt x.l x.ats x.w x.ag i).width ≤ 1125899906842624 := by
               by_cases hq : mZ x.l (prevA x.ats i + 1).toNat (ints x.ats i).toNat < -(x.w - mW x.l (prevA x.ats i + 1).toNat (ints x.ats i).toNat)
               · have := f2 hq; omega
               · have := f1 hq; omega
             generalize lnAt x.l x.ats x.w x.ag i = y at *
             rw [show lo + i * 3 = lo + (i : Int).toNat * 3 from rfl] at h3
             have k0 : look ((F.add Y1).add Y2) ⟨lb, lo + (i : Int).toNat * 3 + 0, none⟩ = some (.int .i64 y.width) := lookN_at h3 0 rfl
             have k2 : look ((F.add Y1).add Y2) ⟨lb, lo + (i : Int).toNat * 3 + 2, none⟩ = some (.slice yp y.pieces.length ypc) := lookN_at h3 2 rfl
             obtain ⟨yp', ypc', hyp', e4, hp63, hpr⟩ := pc_at hyr
             simp only [Value.slice.injEq] at e4
             obtain ⟨rfl, _, rfl⟩ := e4
             refine sk ?_
             refine sq ?_
             refine bl ?_
             refine sq ?_
             refine rg ?_
             refine st (h := O) ?_
             refine nl ?_
             iterate 2 (refine sq ?_)
             refine rg ?_
             refine st (h := O) ?_
             refine nl ?_
             refine bl ?_
             refine J.loop2 (α := Nat) (β := Int) (fun k e => k ≤ y.pieces.length ∧ okP (y.pieces.take k) 0 = some e) (fun k e => [(7, .int .i64 e), (8, .int .i64 k)]) [(4, _), (6, _)] (fun k e => []) [(500021, _), (1, _)] (fun k e => y.pieces.length - k) (0) (0) (by exact ⟨rfl, rfl, trivial⟩) (by exact ⟨rfl, rfl, trivial⟩) (by exact ⟨rfl, rfl, rfl, rfl, trivial⟩) ?_ ?_
             · exact ⟨Nat.zero_le _, rfl⟩
             ·intro k e L1 K1 e1 e2 hI
              dsimp only [apV, apR, List.cons_append, List.nil_append] at e1 e2
              subst e1 e2
              obtain ⟨hk, hek⟩ := hI
              iterate 2 (refine sq ?_)
              refine rg ?_
              iterate 3 (refine st (h := O) ?_)
              refine st (h := (sdX (z := 3))) ?_
              refine st (h := sdFA) ?_
              refine st (h := sdL) ?_
              iterate 2 (refine st (h := O) ?_)
              refine nl ?_
              refine cD (fun c5 => ?_) (fun c5 => ?_)
              ·have hkl : k < y.pieces.length := by omega
               obtain ⟨qb, qo, p, ga, gc, rfl, hpk, hp7, hga, _⟩ := hpr k hkl
               obtain ⟨e5, o1, o2, o3, o4, o5, o6, o7⟩ := okP_at hok hpk
               rw [hek] at o1
               obtain rfl : e = e5 := Option.some.inj o1
               rw [show qo + k * 7 = qo + (k : Int).toNat * 7 from rfl] at hp7
               refine sk ?_
               refine sq ?_
               refine bl ?_
               refine sq ?_
               refine rg ?_
               iterate 2 (refine st (h := O) ?_)
               refine st (h := (sdX (z := 3))) ?_
               refine st (h := sdFA) ?_
               refine st (h := sdL) ?_
               refine st (h := O) ?_
               refine st (h := (sdX (z := 7))) ?_
               refine st (h := sdLN (hv := by exact hp7)) ?_
               refine al (hL := by simp [ntL, ntV, nt2, Pc.cells, nt1_i, nt1_b, nt1_p, nt1_pv, nt1_w, nt1_n, hga.nt]) ?_
               refine so ?_
               refine nl ?_
               iterate 2 (refine sq ?_)
               refine rg ?_
               refine JL.flat (by exact Pc.pl_cells _ (hga.pl _ _)) ?_
               refine st (h := sdFA) ?_
               refine st (h := sdL) ?_
               iterate 3 (refine st (h := O) ?_)
               refine gD (fun g89 => ?_) (fun g89 => ?_)
               ·refine sp ?_
                iterate 2 (refine sp ?_)
                iterate 2 (refine st (h := O) ?_)
                iterate 4 (refine sp ?_)
                refine st (h := O) ?_
                refine nl ?_
                refine cT ?_
                refine sq ?_
                refine rg ?_
                refine st (h := O) ?_
                refine nl ?_
                repeat refine J.dropF ?_
                first
                  | exact rt ⟨rfl, rfl⟩
                  | (exfalso; omega)
               ·refine sg (h := sdFA) ?_
                refine sg (h := sdL) ?_
                refine sg (h := O) ?_
                iterate 2 (refine st (h := O) ?_)
                refine gD (fun g94 => ?_) (fun g94 => ?_)
                ·refine sp ?_
                 iterate 3 (refine sp ?_)
                 refine st (h := O) ?_
                 refine nl ?_
                 refine cT ?_
                 refine sq ?_
                 refine rg ?_
                 refine st (h := O) ?_
                 refine nl ?_
                 repeat refine J.dropF ?_
                 first
                   | exact rt ⟨rfl, rfl⟩
                   | (exfalso; omega)
                ·refine sg (h := sdFA) ?_
                 refine sg (h := sdL) ?_
                 iterate 2 (refine sg (h := O) ?_)
                 refine st (h := O) ?_
                 refine nl ?_
                 refine cD (fun c6 => ?_) (fun c6 => ?_)
                 ·refine sq ?_
                  refine rg ?_
                  refine st (h := O) ?_
                  refine nl ?_
                  repeat refine J.dropF ?_
                  first
                    | exact rt ⟨rfl, rfl⟩
                    | (exfalso; omega)
                 ·refine sk ?_
                  refine rg ?_
                  refine st (h := sdFA) ?_
                  refine st (h := sdL) ?_
                  refine st (h := sdFA) ?_
                  refine st (h := sdL) ?_
                  refine st (h := sdA) ?_
                  refine st (h := O) ?_
                  refine nl ?_
                  refine bk ?_
                  refine rg ?_
                  refine st (h := O) ?_
                  refine st (h := sdA) ?_
                  refine st (h := O) ?_
                  refine nl ?_
                  refine bk2 (k + 1) (_) (by exact ⟨rfl, rfl, trivial⟩) (by exact ⟨rfl, rfl, trivial⟩) (by exact ⟨rfl, rfl, rfl, rfl, trivial⟩) ?_ ?_
                  · omega
                  · exact ⟨by omega, o7⟩
              ·obtain rfl : k = y.pieces.length := by omega
               rw [List.take_length, hok] at hek
               obtain rfl : ef = e := Option.some.inj hek
               refine ex ?_
               refine sq ?_
               refine rg ?_
               iterate 3 (refine st (h := O) ?_)
               refine st (h := (sdX (z := 3))) ?_
               refine st (h := sdFA) ?_
               refine st (h := (by first | exact sdLG | exact sdW)) ?_
               refine st (h := O) ?_
               refine nl ?_
               refine cD (fun c7 => ?_) (fun c7 => ?_)
               ·refine sq ?_
                refine rg ?_
                refine st (h := O) ?_
                refine nl ?_
                repeat refine J.dropF ?_
                first
                  | exact rt ⟨rfl, rfl⟩
                  | (exfalso; omega)
               ·refine sk ?_
                refine bk ?_
                refine rg ?_
                refine st (h := O) ?_
                refine st (h := sdA) ?_
                refine st (h := O) ?_
                refine nl ?_
                refine bk1 (i + 1) (by exact ⟨rfl, trivial⟩) (by exact ⟨rfl, trivial⟩) (by exact ⟨rfl, rfl, rfl, rfl, trivial⟩) ?_ ?_
                · omega
                · exact hil
            ·refine ex ?_
             refine sq ?_
             refine rg ?_
             refine cl (h := by exact fun ι hV hl => wakes25_C _) ?_
             refine st (h := O) ?_
             refine nl ?_
             repeat refine J.dropF ?_
             first
               | exact rt ⟨rfl, rfl⟩
               | (exfalso; omega)
      · obtain ⟨lv, hu, hlv, hR2⟩ := hQ2
        rw [e1] at hR2
        have hS2 := hR2 _ hN2.rows
        obtain ⟨pa, pc, hpa, e3, h63, hlr⟩ := ln_at hS2
        subst e3
        subst hu
        iterate 5 (refine dt (hv := by exact O) ?_)
        refine dn ?_
        iterate 2 (refine sq ?_)
        refine rg ?_
        iterate 2 (refine st (h := O) ?_)
        refine nl ?_
        refine cN (fun c3 => ?_) (fun c3 => ?_)
        ·try (exact absurd rfl c3)
         all_goals
           refine sq ?_
           refine rg ?_
           refine cl (h := by exact fun ι hV hl => wakes25_C _) ?_
           refine st (h := O) ?_
           refine nl ?_
           repeat refine J.dropF ?_
           first
             | exact rt ⟨rfl, rfl⟩
             | (exfalso; omega)
        ·try (exact absurd c3 e2)
         all_goals
           refine sk ?_
           iterate 2 (refine sq ?_)
           refine rg ?_
           refine st (h := O) ?_
           refine nl ?_
           refine bl ?_
           refine J.loop1 (α := Nat) (fun i => i ≤ x.ats.length) (fun i => [(6, .int .i64 i)]) [(4, _)] (fun i => []) [(500021, _), (1, _)] (fun i => x.ats.length - i) (0) (by exact ⟨rfl, trivial⟩) (by exact ⟨rfl, trivial⟩) (by exact ⟨rfl, rfl, rfl, rfl, trivial⟩) ?_ ?_
           · exact Nat.zero_le _
           ·intro i L1 K1 e1 e2 hI
            dsimp only [apV, apR, List.cons_append, List.nil_append] at e1 e2
            subst e1 e2
            iterate 2 (refine sq ?_)
            refine rg ?_
            iterate 4 (refine st (h := O) ?_)
            refine nl ?_
            refine cD (fun c4 => ?_) (fun c4 => ?_)
            ·have hil : i < x.ats.length := by omega
             have hln := hch i hil
             have hlt := lineB_facts hln
             have hm2 := hm
             simp only [mayB, decide_eq_true_eq] at hm2
             obtain ⟨ho, f1, f2, f3, f4, f5, hms⟩ := ln_facts hm hln
             obtain ⟨lb, lo, y, yp, ypc, rfl, hy, h3, hyp, hyr⟩ := hlr i (by rw [hnl]; exact hil)
             obtain rfl : lnAt x.l x.ats x.w x.ag i = y := by rw [linesN_get hil] at hy; exact Option.some.inj hy
             obtain ⟨ef, hok, hfw⟩ := one_apart hg (a1 := (prevA x.ats i + 1).toNat) (b := (ints x.ats i).toNat) (by omega) (ag := x.ag) ⟨hm2.1, hm2.2.1⟩ hsh2
             have hmw := mW_bd hg (a1 := (prevA x.ats i + 1).toNat) (b := (ints x.ats i).toNat) (by omega)
             have hmz := (mYZ hg (a1 := (prevA x.ats i + 1).toNat) (b := (ints x.ats i).toNat) (by omega)).2
             rw [show oneD x.l (prevA x.ats i + 1).toNat (ints x.ats i).toNat x.w x.ag = lnAt x.l x.ats x.w x.ag i from rfl] at hok hfw
             have hwb : (lnAt x.l x.ats x.w x.ag i).width ≤ 1125899906842624 := by
               by_cases hq : mZ x.l (prevA x.ats i + 1).toNat (ints x.ats i).toNat < -(x.w - mW x.l (prevA x.ats i + 1).toNat (ints x.ats i).toNat)
               · have := f2 hq; omega
               · have := f1 hq; omega
             generalize lnAt x.l x.ats x.w x.ag i = y at *
             rw [show lo + i * 3 = lo + (i : Int).toNat * 3 from rfl] at h3
             have k0 : look ((F.add Y1).add Y2) ⟨lb, lo + (i : Int).toNat * 3 + 0, none⟩ = some (.int .i64 y.width) := lookN_at h3 0 rfl
             have k2 : look ((F.add Y1).add Y2) ⟨lb, lo + (i : Int).toNat * 3 + 2, none⟩ = some (.slice yp y.pieces.length ypc) := lookN_at h3 2 rfl
             obtain ⟨yp', ypc', hyp', e4, hp63, hpr⟩ := pc_at hyr
             simp only [Value.slice.injEq] at e4
             obtain ⟨rfl, _, rfl⟩ := e4
             refine sk ?_
             refine sq ?_
             refine bl ?_
             refine sq ?_
             refine rg ?_
             refine st (h := O) ?_
             refine nl ?_
             iterate 2 (refine sq ?_)
             refine rg ?_
             refine st (h := O) ?_
             refine nl ?_
             refine bl ?_
             refine J.loop2 (α := Nat) (β := Int) (fun k e => k ≤ y.pieces.length ∧ okP (y.pieces.take k) 0 = some e) (fun k e => [(7, .int .i64 e), (8, .int .i64 k)]) [(4, _), (6, _)] (fun k e => []) [(500021, _), (1, _)] (fun k e => y.pieces.length - k) (0) (0) (by exact ⟨rfl, rfl, trivial⟩) (by exact ⟨rfl, rfl, trivial⟩) (by exact ⟨rfl, rfl, rfl, rfl, trivial⟩) ?_ ?_
             · exact ⟨Nat.zero_le _, rfl⟩
             ·intro k e L1 K1 e1 e2 hI
              dsimp only [apV, apR, List.cons_append, List.nil_append] at e1 e2
              subst e1 e2
              obtain ⟨hk, hek⟩ := hI
              iterate 2 (refine sq ?_)
              refine rg ?_
              iterate 3 (refine st (h := O) ?_)
              refine st (h := (sdX (z := 3))) ?_
              refine st (h := sdFA) ?_
              refine st (h := sdL) ?_
              iterate 2 (refine st (h := O) ?_)
              refine nl ?_
              refine cD (fun c5 => ?_) (fun c5 => ?_)
              ·have hkl : k < y.pieces.length := by omega
               obtain ⟨qb, qo, p, ga, gc, rfl, hpk, hp7, hga, _⟩ := hpr k hkl
               obtain ⟨e5, o1, o2, o3, o4, o5, o6, o7⟩ := okP_at hok hpk
               rw [hek] at o1
               obtain rfl : e = e5 := Option.some.inj o1
               rw [show qo + k * 7 = qo + (k : Int).toNat * 7 from rfl] at hp7
               refine sk ?_
               refine sq ?_
               refine bl ?_
               refine sq ?_
               refine rg ?_
               iterate 2 (refine st (h := O) ?_)
               refine st (h := (sdX (z := 3))) ?_
               refine st (h := sdFA) ?_
               refine st (h := sdL) ?_
               refine st (h := O) ?_
               refine st (h := (sdX (z := 7))) ?_
               refine st (h := sdLN (hv := by exact hp7)) ?_
               refine al (hL := by simp [ntL, ntV, nt2, Pc.cells, nt1_i, nt1_b, nt1_p, nt1_pv, nt1_w, nt1_n, hga.nt]) ?_
               refine so ?_
               refine nl ?_
               iterate 2 (refine sq ?_)
               refine rg ?_
               refine JL.flat (by exact Pc.pl_cells _ (hga.pl _ _)) ?_
               refine st (h := sdFA) ?_
               refine st (h := sdL) ?_
               iterate 3 (refine st (h := O) ?_)
               refine gD (fun g89 => ?_) (fun g89 => ?_)
               ·refine sp ?_
                iterate 2 (refine sp ?_)
                iterate 2 (refine st (h := O) ?_)
                iterate 4 (refine sp ?_)
                refine st (h := O) ?_
                refine nl ?_
                refine cT ?_
                refine sq ?_
                refine rg ?_
                refine st (h := O) ?_
                refine nl ?_
                repeat refine J.dropF ?_
                first
                  | exact rt ⟨rfl, rfl⟩
                  | (exfalso; omega)
               ·refine sg (h := sdFA) ?_
                refine sg (h := sdL) ?_
                refine sg (h := O) ?_
                iterate 2 (refine st (h := O) ?_)
                refine gD (fun g94 => ?_) (fun g94 => ?_)
                ·refine sp ?_
                 iterate 3 (refine sp ?_)
                 refine st (h := O) ?_
                 refine nl ?_
                 refine cT ?_
                 refine sq ?_
                 refine rg ?_
                 refine st (h := O) ?_
                 refine nl ?_
                 repeat refine J.dropF ?_
                 first
                   | exact rt ⟨rfl, rfl⟩
                   | (exfalso; omega)
                ·refine sg (h := sdFA) ?_
                 refine sg (h := sdL) ?_
                 iterate 2 (refine sg (h := O) ?_)
                 refine st (h := O) ?_
                 refine nl ?_
                 refine cD (fun c6 => ?_) (fun c6 => ?_)
                 ·refine sq ?_
                  refine rg ?_
                  refine st (h := O) ?_
                  refine nl ?_
                  repeat refine J.dropF ?_
                  first
                    | exact rt ⟨rfl, rfl⟩
                    | (exfalso; omega)
                 ·refine sk ?_
                  refine rg ?_
                  refine st (h := sdFA) ?_
                  refine st (h := sdL) ?_
                  refine st (h := sdFA) ?_
                  refine st (h := sdL) ?_
                  refine st (h := sdA) ?_
                  refine st (h := O) ?_
                  refine nl ?_
                  refine bk ?_
                  refine rg ?_
                  refine st (h := O) ?_
                  refine st (h := sdA) ?_
                  refine st (h := O) ?_
                  refine nl ?_
                  refine bk2 (k + 1) (_) (by exact ⟨rfl, rfl, trivial⟩) (by exact ⟨rfl, rfl, trivial⟩) (by exact ⟨rfl, rfl, rfl, rfl, trivial⟩) ?_ ?_
                  · omega
                  · exact ⟨by omega, o7⟩
              ·obtain rfl : k = y.pieces.length := by omega
               rw [List.take_length, hok] at hek
               obtain rfl : ef = e := Option.some.inj hek
               refine ex ?_
               refine sq ?_
               refine rg ?_
               iterate 3 (refine st (h := O) ?_)
               refine st (h := (sdX (z := 3))) ?_
               refine st (h := sdFA) ?_
               refine st (h := (by first | exact sdLG | exact sdW)) ?_
               refine st (h := O) ?_
               refine nl ?_
               refine cD (fun c7 => ?_) (fun c7 => ?_)
               ·refine sq ?_
                refine rg ?_
                refine st (h := O) ?_
                refine nl ?_
                repeat refine J.dropF ?_
                first
                  | exact rt ⟨rfl, rfl⟩
                  | (exfalso; omega)
               ·refine sk ?_
                refine bk ?_
                refine rg ?_
                refine st (h := O) ?_
                refine st (h := sdA) ?_
                refine st (h := O) ?_
                refine nl ?_
                refine bk1 (i + 1) (by exact ⟨rfl, trivial⟩) (by exact ⟨rfl, trivial⟩) (by exact ⟨rfl, rfl, rfl, rfl, trivial⟩) ?_ ?_
                · omega
                · exact hil
            ·refine ex ?_
             refine sq ?_
             refine rg ?_
             refine cl (h := by exact fun ι hV hl => wakes25_C _) ?_
             refine st (h := O) ?_
             refine nl ?_
             repeat refine J.dropF ?_
             first
               | exact rt ⟨rfl, rfl⟩
               | (exfalso; omega)
end Go.Proofs.Ytnkddjdmpnghmaa.Am
namespace Go.Proofs.Ytnkddjdmpnghmaa.Am
set_option linter.unusedSimpArgs false
set_option linter.unusedVariables false
set_option maxRecDepth 100000
set_option maxHeartbeats 4000000
open Go Go.RowKit
theorem law5_K {F : Mem} {cs : List Value} {x : Ask} (h : kAsk.R F cs x) (hg : (∀ i ∈ x.l, i.glyphs.length * 8 ≤ 140737488355328) ∧ i64ok x.w ∧ i64ok x.ag) : C0 Try.prog 5 [.agg ⟨cs⟩] F (.bool true) := by
  obtain ⟨la, lc, aa, ac, rfl, h1, h2⟩ := h
  exact law5_C F x lc ac h1 h2 hg.1 hg.2
theorem law6_K {F : Mem} {cs : List Value} {x : Ask} (h : kAsk.R F cs x) (hg : (∀ i ∈ x.l, i.glyphs.length * 8 ≤ 140737488355328) ∧ i64ok x.w ∧ i64ok x.ag) : C0 Try.prog 6 [.agg ⟨cs⟩] F (.bool true) := by
  obtain ⟨la, lc, aa, ac, rfl, h1, h2⟩ := h
  exact law6_C F x lc ac h1 h2 hg.1
end Go.Proofs.Ytnkddjdmpnghmaa.Am
