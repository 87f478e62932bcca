/- The row of MetricsShort: its walk, over what is handed in. -/
import Derived.Test.YtfcckfiipbdnkaaRows
import Derived.Test.YtfcckfiipbdnkaaZ4
import Derived.WalkKit
import Derived.ProofKit
import Derived.OpenShut
import Derived.ShutString
import Derived.ChangeOld
import Derived.Below
import Derived.SizedLaws
namespace Go.Proofs.Ytfcckfiipbdnkaa.Am
set_option linter.unusedSimpArgs false
set_option linter.unusedVariables false
set_option maxRecDepth 100000
set_option maxHeartbeats 4000000
open Go Go.RowKit
theorem ints_mr {f : Nat → Int} {n k : Nat} (h : k < n) : ints ((List.range n).map f) k = f k := by
  have := ints_get (xs := (List.range n).map f) (i := k) (by simpa using h)
  rw [List.getElem?_map, List.getElem?_range h] at this
  exact (Option.some.inj this).symm
theorem law7_C (F : Mem) (m : Met) (ga ha : Option Addr) (gc hc : Nat) (h : Int) (hga : RIx F ga m.adv) (hha : RIx F ha m.bear) (hh : i64ok h) : C0 Try.prog 7 [m.v ga gc ha hc, .int .i64 h] F (.bool true) := by
  have hp := hga.pl
  have hq := hha.pl
  unfold Met.v
  unfold i64ok at hh
  refine C.go hT Try.func7 Try.ntmps7 ?_
  refine sq ?_
  refine rg ?_
  refine bx (hL := by simp [ntL, ntV, nt2, argL, nt1_i, nt1_b, hp.nt, hq.nt]) ?_
  refine JL.flat (m.pl hp hq gc hc) ?_
  refine st (h := O) ?_
  refine nl ?_
  iterate 2 (refine sq ?_)
  refine rg ?_
  refine st (h := sdLN) ?_
  refine cl (h := by exact fun ι hV hl => (mLarge_C _ m ga ha gc hc hp hq).ofR (arg1 (m.rV hp hq gc hc ι))) ?_
  refine nl ?_
  refine cB (fun c0 => ?_) (fun c0 => ?_)
  · refine sq ?_
    refine rg ?_
    refine cl (h := by exact fun ι hV hl => wakes_C _) ?_
    refine st (h := O) ?_
    refine nl ?_
    repeat refine J.dropF ?_
    first
      | exact rt ⟨rfl, rfl⟩
      | exact absurd rfl g62
      | exact absurd rfl g67
      | exact absurd rfl g128
      | exact absurd ewa g161
      | exact absurd ewb c5
      | (exfalso; omega)
  · have hlen : m.adv.length ≤ 5000 ∧ m.bear.length ≤ 5000 := by simp only [decide_eq_false_iff_not] at c0; omega
    refine sk ?_
    refine sq ?_
    refine J.weak (L0 := [(1, _), (2, _)]) (K0 := [(2, _)]) (by exact ⟨rfl, rfl, trivial⟩) (by exact ⟨rfl, rfl, trivial⟩) ?_
    refine rg ?_
    refine st (h := sdLN) ?_
    refine clC (h := by exact fun ι hV hl => (mCopy_C _ m ga ha gc hc (hga.le hl) (hha.le hl) (by omega) (by omega)).ofR (arg1 (m.rV hp hq gc hc ι))) ?_
    intro u1 Y1 hQ1 hv1 hp1 hN1
    obtain ⟨b1, b2, n1, n2, rfl, hR1⟩ := hQ1
    obtain ⟨hA1, hB1⟩ := hR1 _ hN1.rows
    have hga1 := hga.le hN1.le
    have hha1 := hha.le hN1.le
    refine clC (h := by exact fun ι hV hl => (mBuild_C _ m _ _ _ _ (hA1.le hl) (hB1.le hl)).ofR (arg1 (m.rV hA1.pl hB1.pl _ _ ι))) ?_
    intro u2 Y2 hQ2 hv2 hp2 hN2
    have hga2 := hga1.le hN2.le
    have hha2 := hha1.le hN2.le
    rcases Decidable.em m.good with hgood | hgood
    · rw [show bldD m = some (tbsM m) from if_pos hgood] at hQ2
      obtain ⟨b5, rfl, hTb⟩ := hQ2
      have hT2 := hTb _ hN2.rows
      have hn := hgood.1.1.2.2.2.2.2.2.1
      have hbl := hgood.1.1.2.2.2.2.2.2.2
      obtain ⟨a5, d5, e5, hX⟩ := kTb_ix hT2
      simp only [Value.slice.injEq] at e5
      obtain ⟨rfl, _, rfl⟩ := e5
      obtain ⟨x5, o5, e5, hr5⟩ := hX.rd (by show 0 < 4; omega)
      simp only [Option.some.injEq, Addr.mk.injEq] at e5
      obtain ⟨rfl, rfl, _⟩ := e5
      have q0 := (hr5 0 (by show 0 < 4; omega)).1
      have q1 := (hr5 1 (by show 1 < 4; omega)).2.2
      have q2 := (hr5 2 (by show 2 < 4; omega)).2.2
      have q3 := (hr5 3 (by show 3 < 4; omega)).1
      have s1 : ((tbsM m)[1]'(by show 1 < 4; omega)).2 = tx (hheaN m) := rfl
      have s2 : ((tbsM m)[2]'(by show 2 < 4; omega)).2 = tx (hmtxN m m.adv.length) := rfl
      rw [s1] at q1
      rw [s2] at q2
      have z1 : (tx (hheaN m)).size = 36 := by rw [tx_size, hheaN_length]
      have z2 : (tx (hmtxN m m.adv.length)).size = 4 * m.adv.length := by rw [tx_size, hmtxN_length]
      have zt : (tbsM m).length = 4 := rfl
      iterate 5 (refine st (h := O) ?_)
      refine nl ?_
      refine sq ?_
      refine J.weak (L0 := [(1, _), (2, _), (5, _), (6, _)]) (K0 := [(2, _)]) (by exact ⟨rfl, rfl, rfl, rfl, trivial⟩) (by exact ⟨rfl, rfl, trivial⟩) ?_
      refine rg ?_
      refine st (h := sdFA) ?_
      refine st (h := sdL) ?_
      iterate 2 (refine st (h := O) ?_)
      refine nl ?_
      iterate 2 (refine sq ?_)
      refine J.weak (L0 := [(1, _), (2, _), (5, _), (6, _), (7, _)]) (K0 := [(2, _)]) (by exact ⟨rfl, rfl, rfl, rfl, rfl, trivial⟩) (by exact ⟨rfl, rfl, trivial⟩) ?_
      refine rg ?_
      iterate 3 (refine st (h := O) ?_)
      refine gN (fun g28 => ?_) (fun g28 => ?_)
      · try (exfalso; omega)
        all_goals
          iterate 3 (refine sp ?_)
          iterate 2 (refine st (h := O) ?_)
          iterate 6 (refine sp ?_)
          iterate 2 (refine st (h := O) ?_)
          iterate 8 (refine sp ?_)
          iterate 2 (refine st (h := O) ?_)
          iterate 2 (refine sp ?_)
          iterate 2 (refine st (h := O) ?_)
          iterate 3 (refine sp ?_)
          refine st (h := O) ?_
          refine nl ?_
          refine cT ?_
          refine sq ?_
          refine J.weak (L0 := [(5, _), (6, _)]) (K0 := [(2, _)]) (by exact ⟨rfl, rfl, trivial⟩) (by exact ⟨rfl, rfl, trivial⟩) ?_
          refine rg ?_
          iterate 3 (refine st (h := O) ?_)
          refine gN (fun g62 => ?_) (fun g62 => ?_)
          · refine sp ?_
            iterate 2 (refine sp ?_)
            iterate 2 (refine st (h := O) ?_)
            refine clg (h := by exact fun ι hV hl => wakes_C _) ?_
            iterate 2 (refine st (h := O) ?_)
            refine nl ?_
            repeat refine J.dropF ?_
            first
              | exact rt ⟨rfl, rfl⟩
              | exact absurd rfl g62
              | exact absurd rfl g67
              | exact absurd rfl g128
              | exact absurd ewa g161
              | exact absurd ewb c5
              | (exfalso; omega)
          · refine sg (h := O) ?_
            iterate 2 (refine sg (h := O) ?_)
            iterate 2 (refine st (h := O) ?_)
            refine gD (fun g67 => ?_) (fun g67 => ?_)
            · refine clg (h := by exact fun ι hV hl => wakes_C _) ?_
              iterate 2 (refine st (h := O) ?_)
              refine nl ?_
              repeat refine J.dropF ?_
              first
                | exact rt ⟨rfl, rfl⟩
                | exact absurd rfl g62
                | exact absurd rfl g67
                | exact absurd rfl g128
                | exact absurd ewa g161
                | exact absurd ewb c5
                | (exfalso; omega)
            · refine sp ?_
              iterate 2 (refine st (h := O) ?_)
              refine nl ?_
              repeat refine J.dropF ?_
              first
                | exact rt ⟨rfl, rfl⟩
                | exact absurd rfl g62
                | exact absurd rfl g67
                | exact absurd rfl g128
                | exact absurd ewa g161
                | exact absurd ewb c5
                | (exfalso; omega)
      · try (exfalso; omega)
        all_goals
          iterate 3 (refine sg (h := O) ?_)
          iterate 2 (refine st (h := O) ?_)
          refine gN (fun g33 => ?_) (fun g33 => ?_)
          · try (exfalso; omega)
            all_goals
              iterate 6 (refine sp ?_)
              iterate 2 (refine st (h := O) ?_)
              iterate 8 (refine sp ?_)
              iterate 2 (refine st (h := O) ?_)
              iterate 2 (refine sp ?_)
              iterate 2 (refine st (h := O) ?_)
              iterate 3 (refine sp ?_)
              refine st (h := O) ?_
              refine nl ?_
              refine cT ?_
              refine sq ?_
              refine J.weak (L0 := [(5, _), (6, _)]) (K0 := [(2, _)]) (by exact ⟨rfl, rfl, trivial⟩) (by exact ⟨rfl, rfl, trivial⟩) ?_
              refine rg ?_
              iterate 3 (refine st (h := O) ?_)
              refine gN (fun g62 => ?_) (fun g62 => ?_)
              · refine sp ?_
                iterate 2 (refine sp ?_)
                iterate 2 (refine st (h := O) ?_)
                refine clg (h := by exact fun ι hV hl => wakes_C _) ?_
                iterate 2 (refine st (h := O) ?_)
                refine nl ?_
                repeat refine J.dropF ?_
                first
                  | exact rt ⟨rfl, rfl⟩
                  | exact absurd rfl g62
                  | exact absurd rfl g67
                  | exact absurd rfl g128
                  | exact absurd ewa g161
                  | exact absurd ewb c5
                  | (exfalso; omega)
              · refine sg (h := O) ?_
                iterate 2 (refine sg (h := O) ?_)
                iterate 2 (refine st (h := O) ?_)
                refine gD (fun g67 => ?_) (fun g67 => ?_)
                · refine clg (h := by exact fun ι hV hl => wakes_C _) ?_
                  iterate 2 (refine st (h := O) ?_)
                  refine nl ?_
                  repeat refine J.dropF ?_
                  first
                    | exact rt ⟨rfl, rfl⟩
                    | exact absurd rfl g62
                    | exact absurd rfl g67
                    | exact absurd rfl g128
                    | exact absurd ewa g161
                    | exact absurd ewb c5
                    | (exfalso; omega)
                · refine sp ?_
                  iterate 2 (refine st (h := O) ?_)
                  refine nl ?_
                  repeat refine J.dropF ?_
                  first
                    | exact rt ⟨rfl, rfl⟩
                    | exact absurd rfl g62
                    | exact absurd rfl g67
                    | exact absurd rfl g128
                    | exact absurd ewa g161
                    | exact absurd ewb c5
                    | (exfalso; omega)
          · refine sg (h := O) ?_
            refine sg (h := (sdX (z := 2))) ?_
            refine sg (h := sdFA) ?_
            refine sg (h := sdL) ?_
            iterate 2 (refine sg (h := O) ?_)
            iterate 2 (refine st (h := O) ?_)
            refine gN (fun g41 => ?_) (fun g41 => ?_)
            · try (exfalso; omega)
              all_goals
                iterate 8 (refine sp ?_)
                iterate 2 (refine st (h := O) ?_)
                iterate 2 (refine sp ?_)
                iterate 2 (refine st (h := O) ?_)
                iterate 3 (refine sp ?_)
                refine st (h := O) ?_
                refine nl ?_
                refine cT ?_
                refine sq ?_
                refine J.weak (L0 := [(5, _), (6, _)]) (K0 := [(2, _)]) (by exact ⟨rfl, rfl, trivial⟩) (by exact ⟨rfl, rfl, trivial⟩) ?_
                refine rg ?_
                iterate 3 (refine st (h := O) ?_)
                refine gN (fun g62 => ?_) (fun g62 => ?_)
                · refine sp ?_
                  iterate 2 (refine sp ?_)
                  iterate 2 (refine st (h := O) ?_)
                  refine clg (h := by exact fun ι hV hl => wakes_C _) ?_
                  iterate 2 (refine st (h := O) ?_)
                  refine nl ?_
                  repeat refine J.dropF ?_
                  first
                    | exact rt ⟨rfl, rfl⟩
                    | exact absurd rfl g62
                    | exact absurd rfl g67
                    | exact absurd rfl g128
                    | exact absurd ewa g161
                    | exact absurd ewb c5
                    | (exfalso; omega)
                · refine sg (h := O) ?_
                  iterate 2 (refine sg (h := O) ?_)
                  iterate 2 (refine st (h := O) ?_)
                  refine gD (fun g67 => ?_) (fun g67 => ?_)
                  · refine clg (h := by exact fun ι hV hl => wakes_C _) ?_
                    iterate 2 (refine st (h := O) ?_)
                    refine nl ?_
                    repeat refine J.dropF ?_
                    first
                      | exact rt ⟨rfl, rfl⟩
                      | exact absurd rfl g62
                      | exact absurd rfl g67
                      | exact absurd rfl g128
                      | exact absurd ewa g161
                      | exact absurd ewb c5
                      | (exfalso; omega)
                  · refine sp ?_
                    iterate 2 (refine st (h := O) ?_)
                    refine nl ?_
                    repeat refine J.dropF ?_
                    first
                      | exact rt ⟨rfl, rfl⟩
                      | exact absurd rfl g62
                      | exact absurd rfl g67
                      | exact absurd rfl g128
                      | exact absurd ewa g161
                      | exact absurd ewb c5
                      | (exfalso; omega)
            · refine sg (h := O) ?_
              refine sg (h := (sdX (z := 2))) ?_
              refine sg (h := sdFA) ?_
              refine sg (h := sdL) ?_
              iterate 2 (refine sg (h := O) ?_)
              refine sg (h := sdM) ?_
              refine sg (h := O) ?_
              iterate 2 (refine st (h := O) ?_)
              refine gN (fun g51 => ?_) (fun g51 => ?_)
              · try (exfalso; omega)
                all_goals
                  iterate 2 (refine sp ?_)
                  iterate 2 (refine st (h := O) ?_)
                  iterate 3 (refine sp ?_)
                  refine st (h := O) ?_
                  refine nl ?_
                  refine cT ?_
                  refine sq ?_
                  refine J.weak (L0 := [(5, _), (6, _)]) (K0 := [(2, _)]) (by exact ⟨rfl, rfl, trivial⟩) (by exact ⟨rfl, rfl, trivial⟩) ?_
                  refine rg ?_
                  iterate 3 (refine st (h := O) ?_)
                  refine gN (fun g62 => ?_) (fun g62 => ?_)
                  · refine sp ?_
                    iterate 2 (refine sp ?_)
                    iterate 2 (refine st (h := O) ?_)
                    refine clg (h := by exact fun ι hV hl => wakes_C _) ?_
                    iterate 2 (refine st (h := O) ?_)
                    refine nl ?_
                    repeat refine J.dropF ?_
                    first
                      | exact rt ⟨rfl, rfl⟩
                      | exact absurd rfl g62
                      | exact absurd rfl g67
                      | exact absurd rfl g128
                      | exact absurd ewa g161
                      | exact absurd ewb c5
                      | (exfalso; omega)
                  · refine sg (h := O) ?_
                    iterate 2 (refine sg (h := O) ?_)
                    iterate 2 (refine st (h := O) ?_)
                    refine gD (fun g67 => ?_) (fun g67 => ?_)
                    · refine clg (h := by exact fun ι hV hl => wakes_C _) ?_
                      iterate 2 (refine st (h := O) ?_)
                      refine nl ?_
                      repeat refine J.dropF ?_
                      first
                        | exact rt ⟨rfl, rfl⟩
                        | exact absurd rfl g62
                        | exact absurd rfl g67
                        | exact absurd rfl g128
                        | exact absurd ewa g161
                        | exact absurd ewb c5
                        | (exfalso; omega)
                    · refine sp ?_
                      iterate 2 (refine st (h := O) ?_)
                      refine nl ?_
                      repeat refine J.dropF ?_
                      first
                        | exact rt ⟨rfl, rfl⟩
                        | exact absurd rfl g62
                        | exact absurd rfl g67
                        | exact absurd rfl g128
                        | exact absurd ewa g161
                        | exact absurd ewb c5
                        | (exfalso; omega)
              · refine sg (h := O) ?_
                refine sg (h := O) ?_
                iterate 2 (refine st (h := O) ?_)
                refine gD (fun g55 => ?_) (fun g55 => ?_)
                · refine sp ?_
                  iterate 2 (refine sp ?_)
                  refine st (h := O) ?_
                  refine nl ?_
                  refine cT ?_
                  refine sq ?_
                  refine J.weak (L0 := [(5, _), (6, _)]) (K0 := [(2, _)]) (by exact ⟨rfl, rfl, trivial⟩) (by exact ⟨rfl, rfl, trivial⟩) ?_
                  refine rg ?_
                  iterate 3 (refine st (h := O) ?_)
                  refine gN (fun g62 => ?_) (fun g62 => ?_)
                  · refine sp ?_
                    iterate 2 (refine sp ?_)
                    iterate 2 (refine st (h := O) ?_)
                    refine clg (h := by exact fun ι hV hl => wakes_C _) ?_
                    iterate 2 (refine st (h := O) ?_)
                    refine nl ?_
                    repeat refine J.dropF ?_
                    first
                      | exact rt ⟨rfl, rfl⟩
                      | exact absurd rfl g62
                      | exact absurd rfl g67
                      | exact absurd rfl g128
                      | exact absurd ewa g161
                      | exact absurd ewb c5
                      | (exfalso; omega)
                  · refine sg (h := O) ?_
                    iterate 2 (refine sg (h := O) ?_)
                    iterate 2 (refine st (h := O) ?_)
                    refine gD (fun g67 => ?_) (fun g67 => ?_)
                    · refine clg (h := by exact fun ι hV hl => wakes_C _) ?_
                      iterate 2 (refine st (h := O) ?_)
                      refine nl ?_
                      repeat refine J.dropF ?_
                      first
                        | exact rt ⟨rfl, rfl⟩
                        | exact absurd rfl g62
                        | exact absurd rfl g67
                        | exact absurd rfl g128
                        | exact absurd ewa g161
                        | exact absurd ewb c5
                        | (exfalso; omega)
                    · refine sp ?_
                      iterate 2 (refine st (h := O) ?_)
                      refine nl ?_
                      repeat refine J.dropF ?_
                      first
                        | exact rt ⟨rfl, rfl⟩
                        | exact absurd rfl g62
                        | exact absurd rfl g67
                        | exact absurd rfl g128
                        | exact absurd ewa g161
                        | exact absurd ewb c5
                        | (exfalso; omega)
                · refine sg (h := O) ?_
                  iterate 2 (refine sg (h := O) ?_)
                  refine st (h := O) ?_
                  refine nl ?_
                  refine cD (fun c1 => ?_) (fun c1 => ?_)
                  · refine sq ?_
                    refine J.weak (L0 := [(5, _), (6, _)]) (K0 := [(2, _)]) (by exact ⟨rfl, rfl, trivial⟩) (by exact ⟨rfl, rfl, trivial⟩) ?_
                    refine rg ?_
                    iterate 3 (refine st (h := O) ?_)
                    refine gN (fun g62 => ?_) (fun g62 => ?_)
                    · refine sp ?_
                      iterate 2 (refine sp ?_)
                      iterate 2 (refine st (h := O) ?_)
                      refine clg (h := by exact fun ι hV hl => wakes_C _) ?_
                      iterate 2 (refine st (h := O) ?_)
                      refine nl ?_
                      repeat refine J.dropF ?_
                      first
                        | exact rt ⟨rfl, rfl⟩
                        | exact absurd rfl g62
                        | exact absurd rfl g67
                        | exact absurd rfl g128
                        | exact absurd ewa g161
                        | exact absurd ewb c5
                        | (exfalso; omega)
                    · refine sg (h := O) ?_
                      iterate 2 (refine sg (h := O) ?_)
                      iterate 2 (refine st (h := O) ?_)
                      refine gD (fun g67 => ?_) (fun g67 => ?_)
                      · refine clg (h := by exact fun ι hV hl => wakes_C _) ?_
                        iterate 2 (refine st (h := O) ?_)
                        refine nl ?_
                        repeat refine J.dropF ?_
                        first
                          | exact rt ⟨rfl, rfl⟩
                          | exact absurd rfl g62
                          | exact absurd rfl g67
                          | exact absurd rfl g128
                          | exact absurd ewa g161
                          | exact absurd ewb c5
                          | (exfalso; omega)
                      · refine sp ?_
                        iterate 2 (refine st (h := O) ?_)
                        refine nl ?_
                        repeat refine J.dropF ?_
                        first
                          | exact rt ⟨rfl, rfl⟩
                          | exact absurd rfl g62
                          | exact absurd rfl g67
                          | exact absurd rfl g128
                          | exact absurd ewa g161
                          | exact absurd ewb c5
                          | (exfalso; omega)
                  · obtain ⟨q, rfl⟩ : ∃ q : Nat, h = q := ⟨h.toNat, by omega⟩
                    have hq1 : 1 ≤ q := by omega
                    have hqn : q ≤ m.adv.length := by omega
                    have hcut : (tx (hmtxN m m.adv.length)).extract 0 (4 * q) = tx (shortN m q 0) := by
                      rw [ext_tx, List.drop_zero, hmtxN_take m _ hqn]
                      show tx _ = tx (_ ++ [])
                      rw [List.append_nil]
                    refine sk ?_
                    refine sq ?_
                    refine J.weak (L0 := [(1, _), (2, _), (5, _), (7, _)]) (K0 := [(2, _)]) (by exact ⟨rfl, rfl, rfl, rfl, trivial⟩) (by exact ⟨rfl, rfl, trivial⟩) ?_
                    refine rg ?_
                    refine st (h := O) ?_
                    refine st (h := (sdX (z := 2))) ?_
                    refine st (h := sdFA) ?_
                    refine st (h := sdL) ?_
                    refine st (h := O) ?_
                    refine st (h := sdM) ?_
                    refine st (h := sdCut 0 (4 * q)) ?_
                    refine strB (n := 4 * q) (shortN m q 0) 77 hcut (shortN_bys m q 0) ?_ (by rw [shortN_length]; omega) (hs := by rw [shortN_length]; omega)
                    intro cap7 hc7 hd7
                    refine st (h := O) ?_
                    refine nl ?_
                    iterate 2 (refine sq ?_)
                    refine J.weak (L0 := [(1, _), (2, _), (5, _), (7, _), (8, _)]) (K0 := [(77, _), (2, _)]) (by exact ⟨rfl, rfl, rfl, rfl, rfl, trivial⟩) (by exact ⟨rfl, rfl, rfl, rfl, trivial⟩) ?_
                    refine rg ?_
                    iterate 2 (refine st (h := O) ?_)
                    refine nl ?_
                    refine bl ?_
                    refine J.loop4 (α := Nat) (β := Nat) (γ := Nat) (δ := List Value) (fun n j cp ca => j ≤ m.adv.length - q ∧ n = 4 * q + 2 * j ∧ n ≤ cp ∧ cp ≤ 9223372036854775807 ∧ ca = bvs (shortN m q j)) (fun n j cp ca => [(8, .slice (some ⟨77, 0, some 0⟩) n cp), (9, .int .i64 ((q + j : Nat) : Int))]) [(1, _), (2, _), (5, _), (7, _)] (fun n j cp ca => [(77, { elem := 5, cs := ca, room := cp * 1, fz := true, flat := true })]) [(2, _)] (fun n j cp ca => m.adv.length - q - j) (4 * q) (0) (_) (_) (by exact ⟨rfl, rfl, trivial⟩) (by exact ⟨rfl, rfl, rfl, rfl, trivial⟩) (by exact ⟨rfl, rfl, rfl, rfl, trivial⟩) ?_ ?_
                    · exact ⟨Nat.zero_le _, rfl, hc7, hd7, rfl⟩
                    · intro n j cp ca L1 K1 e1 e2 hI
                      dsimp only [apV, apR, List.cons_append, List.nil_append] at e1 e2
                      subst e1 e2
                      obtain ⟨hj, hn8, hcp, hcp2, hca⟩ := hI
                      iterate 2 (refine sq ?_)
                      refine rg ?_
                      iterate 3 (refine st (h := O) ?_)
                      refine nl ?_
                      refine cD (fun c2 => ?_) (fun c2 => ?_)
                      · have hjl : q + j < m.adv.length := by omega
                        have hcl : ca.length = n := by rw [hca, bvs_length, shortN_length, hn8]
                        refine sk ?_
                        refine sq ?_
                        refine bl ?_
                        refine rg ?_
                        iterate 2 (refine st (h := O) ?_)
                        refine st (h := (sdX (z := 2))) ?_
                        refine st (h := sdFA) ?_
                        refine st (h := sdL) ?_
                        refine st (h := O) ?_
                        refine st (h := sdM) ?_
                        refine st (h := sdA) ?_
                        refine st (h := O) ?_
                        refine st (h := sdM) ?_
                        refine st (h := sdA) ?_
                        refine st (h := sdCut (4 * (q + j) + 2) (4 * (q + j) + 4)) ?_
                        refine apO 1096 77 [(1, _), (2, _), (5, _), (7, _), (9, _)] [(2, _)] ?_ (m := 2) (news := bvs (tb2 (ints m.bear (q + j)))) (happ := by rw [hmtx_part m hjl]; exact appTx2 _) (hol := by show ca.length = n * 1; omega)
                        intro cap8 hc8 hd8
                        refine st (h := O) ?_
                        refine nl ?_
                        refine bk ?_
                        refine rg ?_
                        refine st (h := O) ?_
                        refine st (h := sdA) ?_
                        refine st (h := O) ?_
                        refine nl ?_
                        refine bk4 (_) (j + 1) (_) (_) (by exact ⟨rfl, rfl, trivial⟩) (by exact ⟨rfl, rfl, rfl, rfl, trivial⟩) (by exact ⟨rfl, rfl, rfl, rfl, trivial⟩) ?_ ?_
                        · omega
                        · refine ⟨by omega, by omega, hc8, hd8, ?_⟩
                          show ca ++ bvs _ = _
                          rw [hca, shortN, shortN, brN, ← List.append_assoc, bvs_append (hmtxN m q ++ brN m q j)]
                      · obtain rfl : j = m.adv.length - q := by omega
                        have e34 : (tx (hheaN m)).extract 0 34 ++ tx [hiB q, loB q] = tx (hhN m q) := by rw [ext_tx]; exact hhN_cut m q
                        refine ex ?_
                        refine sq ?_
                        refine J.weak (L0 := [(1, _), (2, _), (5, _), (7, _), (8, _)]) (K0 := [(77, _), (2, _)]) (by exact ⟨rfl, rfl, rfl, rfl, rfl, trivial⟩) (by exact ⟨rfl, rfl, rfl, rfl, trivial⟩) ?_
                        refine dr 14 [77, 2] [0, 1, 2, 3, 4, 5, 6, 7, 8, 9, 1010, 1011, 12, 13] ?_
                        refine dt (hv := by exact O) ?_
                        refine dt (hv := by exact (sdX (z := 2))) ?_
                        refine dt (hv := by exact sdFA) ?_
                        refine dt (hv := by exact sdL) ?_
                        refine dt (hv := by exact sdCut 0 34) ?_
                        refine dt (hv := by exact O) ?_
                        refine dt (hv := by exact sdSr) ?_
                        iterate 3 (refine dt (hv := by exact O) ?_)
                        refine dsl ?_
                        refine dv (hv := by exact sdTx (ns := [hiB q, loB q])) ?_
                        refine dt (hv := by exact (sdCt (h := by rw [ext_tx, tx_size, tx_size, List.drop_zero, List.length_take, hheaN_length]; show min 34 36 + 2 ≤ _; omega)).cast (congrArg Value.string e34)) ?_
                        refine dt (hv := by exact O) ?_
                        refine dn ?_
                        refine sq ?_
                        refine J.weak (L0 := [(1, _), (2, _), (5, _), (7, _), (8, _), (10, _)]) (K0 := [(107, _), (77, _), (2, _)]) (by exact ⟨rfl, rfl, rfl, rfl, rfl, rfl, trivial⟩) (by exact ⟨rfl, rfl, rfl, rfl, rfl, rfl, trivial⟩) ?_
                        refine dr 17 [107, 77, 2] [0, 1, 2, 3, 4, 5, 6, 7, 8, 9, 10, 5008] ?_
                        refine dt (hv := by exact O) ?_
                        refine dt (hv := by exact (sdX (z := 2))) ?_
                        refine dt (hv := by exact sdLN (hv := by exact q0 _)) ?_
                        iterate 3 (refine dt (hv := by exact O) ?_)
                        refine dt (hv := by exact sdTx (ns := shortN m q (m.adv.length - q)) (hcs := by exact hca) (hn := by rw [shortN_length, hn8])) ?_
                        iterate 2 (refine dt (hv := by exact O) ?_)
                        refine dt (hv := by exact (sdX (z := 2))) ?_
                        refine dt (hv := by exact sdLN (hv := by exact q3 _)) ?_
                        refine JD.alt (i := 11) (j := 16) [5007] [1011, 1012, 13, 14, 2015, 1017, 2018] ?_ ?_
                        · refine jsl (hkp := by first | exact Kept.all | exact Kept.k0 | exact Kept.kY | exact Kept.kYY | exact Kept.kY3) ?_
                          refine JD.alt (i := 12) (j := 16) [13, 14, 2015, 1016, 1017, 2018] [1012, 13, 14, 2015, 1017, 2018] ?_ ?_
                          · refine jclC (hkp := by first | exact Kept.all | exact Kept.k0 | exact Kept.kY | exact Kept.kYY | exact Kept.kY3) (h := by exact fun ι hV hl => mRead_C _ _ (tbsS m q) (Val.tbs (l := tbsS m q) hV rfl rfl (Nat.le_of_ble_eq_true rfl)) (tbsS_size hn hqn)) ?_
                            intro u3 Y3 hQ3 hv3 hp3 hN3
                            obtain ⟨w, hw, hwa, hwb⟩ := read_tbsS hgood hq1 hqn
                            rw [hw] at hQ3
                            obtain ⟨b6, c6, b7, c7, rfl, hR3⟩ := hQ3
                            obtain ⟨hA3, hB3⟩ := hR3 _ hN3.rows
                            have hga3 := hga2.le hN3.le
                            have hha3 := hha2.le hN3.le
                            have hwl : w.adv.length = m.adv.length := by rw [hwa]; simp
                            have hwl2 : w.bear.length = m.adv.length := by rw [hwb]; exact hbl
                            iterate 2 (refine dt (hv := by exact O) ?_)
                            refine dq (hv := by exact fun _ _ => O) ?_
                            refine dal (hkp := by first | exact Kept.all | exact Kept.k0 | exact Kept.kY | exact Kept.kYY | exact Kept.kY3) ?_
                            refine dso (hkp := by first | exact Kept.all | exact Kept.k0 | exact Kept.kY | exact Kept.kYY | exact Kept.kY3) ?_
                            refine dq (hv := by exact fun _ _ => O) ?_
                            refine dn ?_
                            iterate 2 (refine sq ?_)
                            refine J.weak (L0 := [(1, _), (2, _), (7, _), (11, _), (12, _)]) (K0 := [(11, _), (122, _), (107, _), (77, _), (2, _)]) (by exact ⟨rfl, rfl, rfl, rfl, rfl, trivial⟩) (by exact ⟨rfl, rfl, rfl, rfl, rfl, rfl, rfl, rfl, rfl, rfl, trivial⟩) ?_
                            refine rg ?_
                            iterate 3 (refine st (h := O) ?_)
                            refine gN (fun g128 => ?_) (fun g128 => ?_)
                            · refine sp ?_
                              iterate 4 (refine sp ?_)
                              iterate 2 (refine st (h := O) ?_)
                              iterate 5 (refine sp ?_)
                              refine st (h := O) ?_
                              refine nl ?_
                              refine cT ?_
                              refine sq ?_
                              refine rg ?_
                              refine st (h := O) ?_
                              refine nl ?_
                              repeat refine J.dropF ?_
                              first
                                | exact rt ⟨rfl, rfl⟩
                                | exact absurd rfl g62
                                | exact absurd rfl g67
                                | exact absurd rfl g128
                                | exact absurd ewa g161
                                | exact absurd ewb c5
                                | (exfalso; omega)
                            · refine sg (h := sdFA) ?_
                              refine sg (h := sdL) ?_
                              iterate 3 (refine sg (h := O) ?_)
                              iterate 2 (refine st (h := O) ?_)
                              refine gN (fun g135 => ?_) (fun g135 => ?_)
                              · refine sp ?_
                                iterate 4 (refine sp ?_)
                                refine st (h := O) ?_
                                refine nl ?_
                                refine cT ?_
                                refine sq ?_
                                refine rg ?_
                                refine st (h := O) ?_
                                refine nl ?_
                                repeat refine J.dropF ?_
                                first
                                  | exact rt ⟨rfl, rfl⟩
                                  | exact absurd rfl g62
                                  | exact absurd rfl g67
                                  | exact absurd rfl g128
                                  | exact absurd ewa g161
                                  | exact absurd ewb c5
                                  | (exfalso; omega)
                              · refine sg (h := sdFA) ?_
                                refine sg (h := sdL) ?_
                                iterate 3 (refine sg (h := O) ?_)
                                refine st (h := O) ?_
                                refine nl ?_
                                refine cN (fun c3 => ?_) (fun c3 => ?_)
                                · refine sq ?_
                                  refine rg ?_
                                  refine st (h := O) ?_
                                  refine nl ?_
                                  repeat refine J.dropF ?_
                                  first
                                    | exact rt ⟨rfl, rfl⟩
                                    | exact absurd rfl g62
                                    | exact absurd rfl g67
                                    | exact absurd rfl g128
                                    | exact absurd ewa g161
                                    | exact absurd ewb c5
                                    | (exfalso; omega)
                                · refine sk ?_
                                  iterate 2 (refine sq ?_)
                                  refine J.weak (L0 := [(1, _), (2, _), (7, _), (11, _)]) (K0 := [(11, _), (122, _), (107, _), (77, _), (2, _)]) (by exact ⟨rfl, rfl, rfl, rfl, trivial⟩) (by exact ⟨rfl, rfl, rfl, rfl, rfl, rfl, rfl, rfl, rfl, rfl, trivial⟩) ?_
                                  refine rg ?_
                                  refine st (h := O) ?_
                                  refine nl ?_
                                  refine bl ?_
                                  refine J.loop1 (α := Nat) (fun k => k ≤ m.adv.length) (fun k => [(13, .int .i64 k)]) [(1, _), (2, _), (7, _), (11, _)] (fun k => []) [(11, _), (122, _), (107, _), (77, _), (2, _)] (fun k => m.adv.length - k) (0) (by exact ⟨rfl, trivial⟩) (by exact ⟨rfl, rfl, rfl, rfl, trivial⟩) (by exact ⟨rfl, rfl, rfl, rfl, rfl, rfl, rfl, rfl, rfl, rfl, trivial⟩) ?_ ?_
                                  · exact Nat.zero_le _
                                  · intro k L1 K1 e1 e2 hI
                                    dsimp only [apV, apR, List.cons_append, List.nil_append] at e1 e2
                                    subst e1 e2
                                    iterate 2 (refine sq ?_)
                                    refine rg ?_
                                    iterate 3 (refine st (h := O) ?_)
                                    refine nl ?_
                                    refine cD (fun c4 => ?_) (fun c4 => ?_)
                                    · have hkl : k < m.adv.length := by omega
                                      have hmq : min k (q - 1) < m.adv.length := by omega
                                      obtain ⟨x6, o6, e6, hr6⟩ := hA3.rd (by omega)
                                      simp only [Option.some.injEq, Addr.mk.injEq] at e6
                                      obtain ⟨rfl, rfl, _⟩ := e6
                                      obtain ⟨x7, o7, e7, hr7⟩ := hB3.rd (by omega)
                                      simp only [Option.some.injEq, Addr.mk.injEq] at e7
                                      obtain ⟨rfl, rfl, _⟩ := e7
                                      obtain ⟨ab, ao, rfl, har⟩ := hga3.rd (by omega)
                                      obtain ⟨bb, bo, rfl, hbr⟩ := hha3.rd (by omega)
                                      have ewa : ints w.adv k = ints m.adv (min k (q - 1)) := by rw [hwa]; exact ints_mr hkl
                                      have ewb : ints w.bear k = ints m.bear k := by rw [hwb]
                                      have y1 := hr6 k _ (ints_get (by omega))
                                      have y2 := har _ _ (ints_get hmq)
                                      have y3 := hr7 k _ (ints_get (by omega))
                                      have y4 := hbr k _ (ints_get (xs := m.bear) (by omega))
                                      rw [show 0 + k = 0 + (k : Int).toNat * 1 from by omega] at y1 y3
                                      rw [show ao + min k (q - 1) = ao + (min (k : Int) ((q : Int) - 1)).toNat * 1 from by omega] at y2
                                      rw [show bo + k = bo + (k : Int).toNat * 1 from by omega] at y4
                                      refine sk ?_
                                      refine sq ?_
                                      refine bl ?_
                                      refine sq ?_
                                      refine dr 27 [11, 122, 107, 77, 2] [0, 1, 2, 3, 4, 5, 6, 7, 8, 9, 10, 11, 12, 13, 14, 15, 16, 17, 18, 19, 20, 21, 22, 23, 24, 25, 26] ?_
                                      refine dt (hv := by exact sdFA) ?_
                                      refine dt (hv := by exact sdL) ?_
                                      refine dt (hv := by exact O) ?_
                                      refine dt (hv := by exact (sdX (z := 1))) ?_
                                      refine dt (hv := by exact (by first | exact sdLG | exact sdW)) ?_
                                      refine dt (hv := by exact sdFA) ?_
                                      refine dt (hv := by exact sdL) ?_
                                      iterate 2 (refine dt (hv := by exact O) ?_)
                                      refine dt (hv := by exact sdS) ?_
                                      refine dt (hv := by exact O) ?_
                                      refine dt (hv := by exact (sdX (z := 1))) ?_
                                      refine dt (hv := by exact (by first | exact sdLG | exact sdW)) ?_
                                      iterate 2 (refine dt (hv := by exact O) ?_)
                                      refine dgN (fun g161 => ?_) (fun g161 => ?_)
                                      · refine dp ?_
                                        iterate 10 (refine dp ?_)
                                        refine dt (hv := by exact O) ?_
                                        refine dn ?_
                                        refine cT ?_
                                        refine sq ?_
                                        refine rg ?_
                                        refine st (h := O) ?_
                                        refine nl ?_
                                        repeat refine J.dropF ?_
                                        first
                                          | exact rt ⟨rfl, rfl⟩
                                          | exact absurd rfl g62
                                          | exact absurd rfl g67
                                          | exact absurd rfl g128
                                          | exact absurd ewa g161
                                          | exact absurd ewb c5
                                          | (exfalso; omega)
                                      · refine dg (hv := by exact sdFA) ?_
                                        refine dg (hv := by exact sdL) ?_
                                        refine dg (hv := by exact O) ?_
                                        refine dg (hv := by exact (sdX (z := 1))) ?_
                                        refine dg (hv := by exact (by first | exact sdLG | exact sdW)) ?_
                                        refine dg (hv := by exact sdFA) ?_
                                        refine dg (hv := by exact sdL) ?_
                                        refine dg (hv := by exact O) ?_
                                        refine dg (hv := by exact (sdX (z := 1))) ?_
                                        refine dg (hv := by exact (by first | exact sdLG | exact sdW)) ?_
                                        refine dg (hv := by exact O) ?_
                                        refine dt (hv := by exact O) ?_
                                        refine dn ?_
                                        refine cN (fun c5 => ?_) (fun c5 => ?_)
                                        · refine sq ?_
                                          refine rg ?_
                                          refine st (h := O) ?_
                                          refine nl ?_
                                          repeat refine J.dropF ?_
                                          first
                                            | exact rt ⟨rfl, rfl⟩
                                            | exact absurd rfl g62
                                            | exact absurd rfl g67
                                            | exact absurd rfl g128
                                            | exact absurd ewa g161
                                            | exact absurd ewb c5
                                            | (exfalso; omega)
                                        · refine sk ?_
                                          refine bk ?_
                                          refine rg ?_
                                          refine st (h := O) ?_
                                          refine st (h := sdA) ?_
                                          refine st (h := O) ?_
                                          refine nl ?_
                                          refine bk1 (k + 1) (by exact ⟨rfl, trivial⟩) (by exact ⟨rfl, rfl, rfl, rfl, trivial⟩) (by exact ⟨rfl, rfl, rfl, rfl, rfl, rfl, rfl, rfl, rfl, rfl, trivial⟩) ?_ ?_
                                          · omega
                                          · omega
                                    · refine ex ?_
                                      refine sq ?_
                                      refine J.weak (L0 := []) (K0 := [(11, _), (122, _), (107, _), (77, _), (2, _)]) (by exact trivial) (by exact ⟨rfl, rfl, rfl, rfl, rfl, rfl, rfl, rfl, rfl, rfl, trivial⟩) ?_
                                      refine rg ?_
                                      refine cl (h := by exact fun ι hV hl => wakes_C _) ?_
                                      refine st (h := O) ?_
                                      refine nl ?_
                                      repeat refine J.dropF ?_
                                      first
                                        | exact rt ⟨rfl, rfl⟩
                                        | exact absurd rfl g62
                                        | exact absurd rfl g67
                                        | exact absurd rfl g128
                                        | exact absurd ewa g161
                                        | exact absurd ewb c5
                                        | (exfalso; omega)
                          · refine jal (hkp := by first | exact Kept.all | exact Kept.k0 | exact Kept.kY | exact Kept.kYY | exact Kept.kY3) ?_
                            refine dclC (hkp := by first | exact Kept.all | exact Kept.k0 | exact Kept.kY | exact Kept.kYY | exact Kept.kY3) (h := by exact fun ι hV hl => mRead_C _ _ (tbsS m q) (Val.tbs (l := tbsS m q) hV rfl rfl (Nat.le_of_ble_eq_true rfl)) (tbsS_size hn hqn)) ?_
                            intro u3 Y3 hQ3 hv3 hp3 hN3
                            obtain ⟨w, hw, hwa, hwb⟩ := read_tbsS hgood hq1 hqn
                            rw [hw] at hQ3
                            obtain ⟨b6, c6, b7, c7, rfl, hR3⟩ := hQ3
                            obtain ⟨hA3, hB3⟩ := hR3 _ hN3.rows
                            have hga3 := hga2.le hN3.le
                            have hha3 := hha2.le hN3.le
                            have hwl : w.adv.length = m.adv.length := by rw [hwa]; simp
                            have hwl2 : w.bear.length = m.adv.length := by rw [hwb]; exact hbl
                            iterate 2 (refine dt (hv := by exact O) ?_)
                            refine dq (hv := by exact fun _ _ => O) ?_
                            refine dso (hkp := by first | exact Kept.all | exact Kept.k0 | exact Kept.kY | exact Kept.kYY | exact Kept.kY3) ?_
                            refine dq (hv := by exact fun _ _ => O) ?_
                            refine dn ?_
                            iterate 2 (refine sq ?_)
                            refine J.weak (L0 := [(1, _), (2, _), (7, _), (11, _), (12, _)]) (K0 := [(11, _), (122, _), (107, _), (77, _), (2, _)]) (by exact ⟨rfl, rfl, rfl, rfl, rfl, trivial⟩) (by exact ⟨rfl, rfl, rfl, rfl, rfl, rfl, rfl, rfl, rfl, rfl, trivial⟩) ?_
                            refine rg ?_
                            iterate 3 (refine st (h := O) ?_)
                            refine gN (fun g128 => ?_) (fun g128 => ?_)
                            · refine sp ?_
                              iterate 4 (refine sp ?_)
                              iterate 2 (refine st (h := O) ?_)
                              iterate 5 (refine sp ?_)
                              refine st (h := O) ?_
                              refine nl ?_
                              refine cT ?_
                              refine sq ?_
                              refine rg ?_
                              refine st (h := O) ?_
                              refine nl ?_
                              repeat refine J.dropF ?_
                              first
                                | exact rt ⟨rfl, rfl⟩
                                | exact absurd rfl g62
                                | exact absurd rfl g67
                                | exact absurd rfl g128
                                | exact absurd ewa g161
                                | exact absurd ewb c5
                                | (exfalso; omega)
                            · refine sg (h := sdFA) ?_
                              refine sg (h := sdL) ?_
                              iterate 3 (refine sg (h := O) ?_)
                              iterate 2 (refine st (h := O) ?_)
                              refine gN (fun g135 => ?_) (fun g135 => ?_)
                              · refine sp ?_
                                iterate 4 (refine sp ?_)
                                refine st (h := O) ?_
                                refine nl ?_
                                refine cT ?_
                                refine sq ?_
                                refine rg ?_
                                refine st (h := O) ?_
                                refine nl ?_
                                repeat refine J.dropF ?_
                                first
                                  | exact rt ⟨rfl, rfl⟩
                                  | exact absurd rfl g62
                                  | exact absurd rfl g67
                                  | exact absurd rfl g128
                                  | exact absurd ewa g161
                                  | exact absurd ewb c5
                                  | (exfalso; omega)
                              · refine sg (h := sdFA) ?_
                                refine sg (h := sdL) ?_
                                iterate 3 (refine sg (h := O) ?_)
                                refine st (h := O) ?_
                                refine nl ?_
                                refine cN (fun c3 => ?_) (fun c3 => ?_)
                                · refine sq ?_
                                  refine rg ?_
                                  refine st (h := O) ?_
                                  refine nl ?_
                                  repeat refine J.dropF ?_
                                  first
                                    | exact rt ⟨rfl, rfl⟩
                                    | exact absurd rfl g62
                                    | exact absurd rfl g67
                                    | exact absurd rfl g128
                                    | exact absurd ewa g161
                                    | exact absurd ewb c5
                                    | (exfalso; omega)
                                · refine sk ?_
                                  iterate 2 (refine sq ?_)
                                  refine J.weak (L0 := [(1, _), (2, _), (7, _), (11, _)]) (K0 := [(11, _), (122, _), (107, _), (77, _), (2, _)]) (by exact ⟨rfl, rfl, rfl, rfl, trivial⟩) (by exact ⟨rfl, rfl, rfl, rfl, rfl, rfl, rfl, rfl, rfl, rfl, trivial⟩) ?_
                                  refine rg ?_
                                  refine st (h := O) ?_
                                  refine nl ?_
                                  refine bl ?_
                                  refine J.loop1 (α := Nat) (fun k => k ≤ m.adv.length) (fun k => [(13, .int .i64 k)]) [(1, _), (2, _), (7, _), (11, _)] (fun k => []) [(11, _), (122, _), (107, _), (77, _), (2, _)] (fun k => m.adv.length - k) (0) (by exact ⟨rfl, trivial⟩) (by exact ⟨rfl, rfl, rfl, rfl, trivial⟩) (by exact ⟨rfl, rfl, rfl, rfl, rfl, rfl, rfl, rfl, rfl, rfl, trivial⟩) ?_ ?_
                                  · exact Nat.zero_le _
                                  · intro k L1 K1 e1 e2 hI
                                    dsimp only [apV, apR, List.cons_append, List.nil_append] at e1 e2
                                    subst e1 e2
                                    iterate 2 (refine sq ?_)
                                    refine rg ?_
                                    iterate 3 (refine st (h := O) ?_)
                                    refine nl ?_
                                    refine cD (fun c4 => ?_) (fun c4 => ?_)
                                    · have hkl : k < m.adv.length := by omega
                                      have hmq : min k (q - 1) < m.adv.length := by omega
                                      obtain ⟨x6, o6, e6, hr6⟩ := hA3.rd (by omega)
                                      simp only [Option.some.injEq, Addr.mk.injEq] at e6
                                      obtain ⟨rfl, rfl, _⟩ := e6
                                      obtain ⟨x7, o7, e7, hr7⟩ := hB3.rd (by omega)
                                      simp only [Option.some.injEq, Addr.mk.injEq] at e7
                                      obtain ⟨rfl, rfl, _⟩ := e7
                                      obtain ⟨ab, ao, rfl, har⟩ := hga3.rd (by omega)
                                      obtain ⟨bb, bo, rfl, hbr⟩ := hha3.rd (by omega)
                                      have ewa : ints w.adv k = ints m.adv (min k (q - 1)) := by rw [hwa]; exact ints_mr hkl
                                      have ewb : ints w.bear k = ints m.bear k := by rw [hwb]
                                      have y1 := hr6 k _ (ints_get (by omega))
                                      have y2 := har _ _ (ints_get hmq)
                                      have y3 := hr7 k _ (ints_get (by omega))
                                      have y4 := hbr k _ (ints_get (xs := m.bear) (by omega))
                                      rw [show 0 + k = 0 + (k : Int).toNat * 1 from by omega] at y1 y3
                                      rw [show ao + min k (q - 1) = ao + (min (k : Int) ((q : Int) - 1)).toNat * 1 from by omega] at y2
                                      rw [show bo + k = bo + (k : Int).toNat * 1 from by omega] at y4
                                      refine sk ?_
                                      refine sq ?_
                                      refine bl ?_
                                      refine sq ?_
                                      refine dr 27 [11, 122, 107, 77, 2] [0, 1, 2, 3, 4, 5, 6, 7, 8, 9, 10, 11, 12, 13, 14, 15, 16, 17, 18, 19, 20, 21, 22, 23, 24, 25, 26] ?_
                                      refine dt (hv := by exact sdFA) ?_
                                      refine dt (hv := by exact sdL) ?_
                                      refine dt (hv := by exact O) ?_
                                      refine dt (hv := by exact (sdX (z := 1))) ?_
                                      refine dt (hv := by exact (by first | exact sdLG | exact sdW)) ?_
                                      refine dt (hv := by exact sdFA) ?_
                                      refine dt (hv := by exact sdL) ?_
                                      iterate 2 (refine dt (hv := by exact O) ?_)
                                      refine dt (hv := by exact sdS) ?_
                                      refine dt (hv := by exact O) ?_
                                      refine dt (hv := by exact (sdX (z := 1))) ?_
                                      refine dt (hv := by exact (by first | exact sdLG | exact sdW)) ?_
                                      iterate 2 (refine dt (hv := by exact O) ?_)
                                      refine dgN (fun g161 => ?_) (fun g161 => ?_)
                                      · refine dp ?_
                                        iterate 10 (refine dp ?_)
                                        refine dt (hv := by exact O) ?_
                                        refine dn ?_
                                        refine cT ?_
                                        refine sq ?_
                                        refine rg ?_
                                        refine st (h := O) ?_
                                        refine nl ?_
                                        repeat refine J.dropF ?_
                                        first
                                          | exact rt ⟨rfl, rfl⟩
                                          | exact absurd rfl g62
                                          | exact absurd rfl g67
                                          | exact absurd rfl g128
                                          | exact absurd ewa g161
                                          | exact absurd ewb c5
                                          | (exfalso; omega)
                                      · refine dg (hv := by exact sdFA) ?_
                                        refine dg (hv := by exact sdL) ?_
                                        refine dg (hv := by exact O) ?_
                                        refine dg (hv := by exact (sdX (z := 1))) ?_
                                        refine dg (hv := by exact (by first | exact sdLG | exact sdW)) ?_
                                        refine dg (hv := by exact sdFA) ?_
                                        refine dg (hv := by exact sdL) ?_
                                        refine dg (hv := by exact O) ?_
                                        refine dg (hv := by exact (sdX (z := 1))) ?_
                                        refine dg (hv := by exact (by first | exact sdLG | exact sdW)) ?_
                                        refine dg (hv := by exact O) ?_
                                        refine dt (hv := by exact O) ?_
                                        refine dn ?_
                                        refine cN (fun c5 => ?_) (fun c5 => ?_)
                                        · refine sq ?_
                                          refine rg ?_
                                          refine st (h := O) ?_
                                          refine nl ?_
                                          repeat refine J.dropF ?_
                                          first
                                            | exact rt ⟨rfl, rfl⟩
                                            | exact absurd rfl g62
                                            | exact absurd rfl g67
                                            | exact absurd rfl g128
                                            | exact absurd ewa g161
                                            | exact absurd ewb c5
                                            | (exfalso; omega)
                                        · refine sk ?_
                                          refine bk ?_
                                          refine rg ?_
                                          refine st (h := O) ?_
                                          refine st (h := sdA) ?_
                                          refine st (h := O) ?_
                                          refine nl ?_
                                          refine bk1 (k + 1) (by exact ⟨rfl, trivial⟩) (by exact ⟨rfl, rfl, rfl, rfl, trivial⟩) (by exact ⟨rfl, rfl, rfl, rfl, rfl, rfl, rfl, rfl, rfl, rfl, trivial⟩) ?_ ?_
                                          · omega
                                          · omega
                                    · refine ex ?_
                                      refine sq ?_
                                      refine J.weak (L0 := []) (K0 := [(11, _), (122, _), (107, _), (77, _), (2, _)]) (by exact trivial) (by exact ⟨rfl, rfl, rfl, rfl, rfl, rfl, rfl, rfl, rfl, rfl, trivial⟩) ?_
                                      refine rg ?_
                                      refine cl (h := by exact fun ι hV hl => wakes_C _) ?_
                                      refine st (h := O) ?_
                                      refine nl ?_
                                      repeat refine J.dropF ?_
                                      first
                                        | exact rt ⟨rfl, rfl⟩
                                        | exact absurd rfl g62
                                        | exact absurd rfl g67
                                        | exact absurd rfl g128
                                        | exact absurd ewa g161
                                        | exact absurd ewb c5
                                        | (exfalso; omega)
                        · refine jal (hkp := by first | exact Kept.all | exact Kept.k0 | exact Kept.kY | exact Kept.kYY | exact Kept.kY3) ?_
                          refine dsl ?_
                          refine dclC (hkp := by first | exact Kept.all | exact Kept.k0 | exact Kept.kY | exact Kept.kYY | exact Kept.kY3) (h := by exact fun ι hV hl => mRead_C _ _ (tbsS m q) (Val.tbs (l := tbsS m q) hV rfl rfl (Nat.le_of_ble_eq_true rfl)) (tbsS_size hn hqn)) ?_
                          intro u3 Y3 hQ3 hv3 hp3 hN3
                          obtain ⟨w, hw, hwa, hwb⟩ := read_tbsS hgood hq1 hqn
                          rw [hw] at hQ3
                          obtain ⟨b6, c6, b7, c7, rfl, hR3⟩ := hQ3
                          obtain ⟨hA3, hB3⟩ := hR3 _ hN3.rows
                          have hga3 := hga2.le hN3.le
                          have hha3 := hha2.le hN3.le
                          have hwl : w.adv.length = m.adv.length := by rw [hwa]; simp
                          have hwl2 : w.bear.length = m.adv.length := by rw [hwb]; exact hbl
                          iterate 2 (refine dt (hv := by exact O) ?_)
                          refine dq (hv := by exact fun _ _ => O) ?_
                          refine dso (hkp := by first | exact Kept.all | exact Kept.k0 | exact Kept.kY | exact Kept.kYY | exact Kept.kY3) ?_
                          refine dq (hv := by exact fun _ _ => O) ?_
                          refine dn ?_
                          iterate 2 (refine sq ?_)
                          refine J.weak (L0 := [(1, _), (2, _), (7, _), (11, _), (12, _)]) (K0 := [(122, _), (11, _), (107, _), (77, _), (2, _)]) (by exact ⟨rfl, rfl, rfl, rfl, rfl, trivial⟩) (by exact ⟨rfl, rfl, rfl, rfl, rfl, rfl, rfl, rfl, rfl, rfl, trivial⟩) ?_
                          refine rg ?_
                          iterate 3 (refine st (h := O) ?_)
                          refine gN (fun g128 => ?_) (fun g128 => ?_)
                          · refine sp ?_
                            iterate 4 (refine sp ?_)
                            iterate 2 (refine st (h := O) ?_)
                            iterate 5 (refine sp ?_)
                            refine st (h := O) ?_
                            refine nl ?_
                            refine cT ?_
                            refine sq ?_
                            refine rg ?_
                            refine st (h := O) ?_
                            refine nl ?_
                            repeat refine J.dropF ?_
                            first
                              | exact rt ⟨rfl, rfl⟩
                              | exact absurd rfl g62
                              | exact absurd rfl g67
                              | exact absurd rfl g128
                              | exact absurd ewa g161
                              | exact absurd ewb c5
                              | (exfalso; omega)
                          · refine sg (h := sdFA) ?_
                            refine sg (h := sdL) ?_
                            iterate 3 (refine sg (h := O) ?_)
                            iterate 2 (refine st (h := O) ?_)
                            refine gN (fun g135 => ?_) (fun g135 => ?_)
                            · refine sp ?_
                              iterate 4 (refine sp ?_)
                              refine st (h := O) ?_
                              refine nl ?_
                              refine cT ?_
                              refine sq ?_
                              refine rg ?_
                              refine st (h := O) ?_
                              refine nl ?_
                              repeat refine J.dropF ?_
                              first
                                | exact rt ⟨rfl, rfl⟩
                                | exact absurd rfl g62
                                | exact absurd rfl g67
                                | exact absurd rfl g128
                                | exact absurd ewa g161
                                | exact absurd ewb c5
                                | (exfalso; omega)
                            · refine sg (h := sdFA) ?_
                              refine sg (h := sdL) ?_
                              iterate 3 (refine sg (h := O) ?_)
                              refine st (h := O) ?_
                              refine nl ?_
                              refine cN (fun c3 => ?_) (fun c3 => ?_)
                              · refine sq ?_
                                refine rg ?_
                                refine st (h := O) ?_
                                refine nl ?_
                                repeat refine J.dropF ?_
                                first
                                  | exact rt ⟨rfl, rfl⟩
                                  | exact absurd rfl g62
                                  | exact absurd rfl g67
                                  | exact absurd rfl g128
                                  | exact absurd ewa g161
                                  | exact absurd ewb c5
                                  | (exfalso; omega)
                              · refine sk ?_
                                iterate 2 (refine sq ?_)
                                refine J.weak (L0 := [(1, _), (2, _), (7, _), (11, _)]) (K0 := [(122, _), (11, _), (107, _), (77, _), (2, _)]) (by exact ⟨rfl, rfl, rfl, rfl, trivial⟩) (by exact ⟨rfl, rfl, rfl, rfl, rfl, rfl, rfl, rfl, rfl, rfl, trivial⟩) ?_
                                refine rg ?_
                                refine st (h := O) ?_
                                refine nl ?_
                                refine bl ?_
                                refine J.loop1 (α := Nat) (fun k => k ≤ m.adv.length) (fun k => [(13, .int .i64 k)]) [(1, _), (2, _), (7, _), (11, _)] (fun k => []) [(122, _), (11, _), (107, _), (77, _), (2, _)] (fun k => m.adv.length - k) (0) (by exact ⟨rfl, trivial⟩) (by exact ⟨rfl, rfl, rfl, rfl, trivial⟩) (by exact ⟨rfl, rfl, rfl, rfl, rfl, rfl, rfl, rfl, rfl, rfl, trivial⟩) ?_ ?_
                                · exact Nat.zero_le _
                                · intro k L1 K1 e1 e2 hI
                                  dsimp only [apV, apR, List.cons_append, List.nil_append] at e1 e2
                                  subst e1 e2
                                  iterate 2 (refine sq ?_)
                                  refine rg ?_
                                  iterate 3 (refine st (h := O) ?_)
                                  refine nl ?_
                                  refine cD (fun c4 => ?_) (fun c4 => ?_)
                                  · have hkl : k < m.adv.length := by omega
                                    have hmq : min k (q - 1) < m.adv.length := by omega
                                    obtain ⟨x6, o6, e6, hr6⟩ := hA3.rd (by omega)
                                    simp only [Option.some.injEq, Addr.mk.injEq] at e6
                                    obtain ⟨rfl, rfl, _⟩ := e6
                                    obtain ⟨x7, o7, e7, hr7⟩ := hB3.rd (by omega)
                                    simp only [Option.some.injEq, Addr.mk.injEq] at e7
                                    obtain ⟨rfl, rfl, _⟩ := e7
                                    obtain ⟨ab, ao, rfl, har⟩ := hga3.rd (by omega)
                                    obtain ⟨bb, bo, rfl, hbr⟩ := hha3.rd (by omega)
                                    have ewa : ints w.adv k = ints m.adv (min k (q - 1)) := by rw [hwa]; exact ints_mr hkl
                                    have ewb : ints w.bear k = ints m.bear k := by rw [hwb]
                                    have y1 := hr6 k _ (ints_get (by omega))
                                    have y2 := har _ _ (ints_get hmq)
                                    have y3 := hr7 k _ (ints_get (by omega))
                                    have y4 := hbr k _ (ints_get (xs := m.bear) (by omega))
                                    rw [show 0 + k = 0 + (k : Int).toNat * 1 from by omega] at y1 y3
                                    rw [show ao + min k (q - 1) = ao + (min (k : Int) ((q : Int) - 1)).toNat * 1 from by omega] at y2
                                    rw [show bo + k = bo + (k : Int).toNat * 1 from by omega] at y4
                                    refine sk ?_
                                    refine sq ?_
                                    refine bl ?_
                                    refine sq ?_
                                    refine dr 27 [122, 11, 107, 77, 2] [0, 1, 2, 3, 4, 5, 6, 7, 8, 9, 10, 11, 12, 13, 14, 15, 16, 17, 18, 19, 20, 21, 22, 23, 24, 25, 26] ?_
                                    refine dt (hv := by exact sdFA) ?_
                                    refine dt (hv := by exact sdL) ?_
                                    refine dt (hv := by exact O) ?_
                                    refine dt (hv := by exact (sdX (z := 1))) ?_
                                    refine dt (hv := by exact (by first | exact sdLG | exact sdW)) ?_
                                    refine dt (hv := by exact sdFA) ?_
                                    refine dt (hv := by exact sdL) ?_
                                    iterate 2 (refine dt (hv := by exact O) ?_)
                                    refine dt (hv := by exact sdS) ?_
                                    refine dt (hv := by exact O) ?_
                                    refine dt (hv := by exact (sdX (z := 1))) ?_
                                    refine dt (hv := by exact (by first | exact sdLG | exact sdW)) ?_
                                    iterate 2 (refine dt (hv := by exact O) ?_)
                                    refine dgN (fun g161 => ?_) (fun g161 => ?_)
                                    · refine dp ?_
                                      iterate 10 (refine dp ?_)
                                      refine dt (hv := by exact O) ?_
                                      refine dn ?_
                                      refine cT ?_
                                      refine sq ?_
                                      refine rg ?_
                                      refine st (h := O) ?_
                                      refine nl ?_
                                      repeat refine J.dropF ?_
                                      first
                                        | exact rt ⟨rfl, rfl⟩
                                        | exact absurd rfl g62
                                        | exact absurd rfl g67
                                        | exact absurd rfl g128
                                        | exact absurd ewa g161
                                        | exact absurd ewb c5
                                        | (exfalso; omega)
                                    · refine dg (hv := by exact sdFA) ?_
                                      refine dg (hv := by exact sdL) ?_
                                      refine dg (hv := by exact O) ?_
                                      refine dg (hv := by exact (sdX (z := 1))) ?_
                                      refine dg (hv := by exact (by first | exact sdLG | exact sdW)) ?_
                                      refine dg (hv := by exact sdFA) ?_
                                      refine dg (hv := by exact sdL) ?_
                                      refine dg (hv := by exact O) ?_
                                      refine dg (hv := by exact (sdX (z := 1))) ?_
                                      refine dg (hv := by exact (by first | exact sdLG | exact sdW)) ?_
                                      refine dg (hv := by exact O) ?_
                                      refine dt (hv := by exact O) ?_
                                      refine dn ?_
                                      refine cN (fun c5 => ?_) (fun c5 => ?_)
                                      · refine sq ?_
                                        refine rg ?_
                                        refine st (h := O) ?_
                                        refine nl ?_
                                        repeat refine J.dropF ?_
                                        first
                                          | exact rt ⟨rfl, rfl⟩
                                          | exact absurd rfl g62
                                          | exact absurd rfl g67
                                          | exact absurd rfl g128
                                          | exact absurd ewa g161
                                          | exact absurd ewb c5
                                          | (exfalso; omega)
                                      · refine sk ?_
                                        refine bk ?_
                                        refine rg ?_
                                        refine st (h := O) ?_
                                        refine st (h := sdA) ?_
                                        refine st (h := O) ?_
                                        refine nl ?_
                                        refine bk1 (k + 1) (by exact ⟨rfl, trivial⟩) (by exact ⟨rfl, rfl, rfl, rfl, trivial⟩) (by exact ⟨rfl, rfl, rfl, rfl, rfl, rfl, rfl, rfl, rfl, rfl, trivial⟩) ?_ ?_
                                        · omega
                                        · omega
                                  · refine ex ?_
                                    refine sq ?_
                                    refine J.weak (L0 := []) (K0 := [(122, _), (11, _), (107, _), (77, _), (2, _)]) (by exact trivial) (by exact ⟨rfl, rfl, rfl, rfl, rfl, rfl, rfl, rfl, rfl, rfl, trivial⟩) ?_
                                    refine rg ?_
                                    refine cl (h := by exact fun ι hV hl => wakes_C _) ?_
                                    refine st (h := O) ?_
                                    refine nl ?_
                                    repeat refine J.dropF ?_
                                    first
                                      | exact rt ⟨rfl, rfl⟩
                                      | exact absurd rfl g62
                                      | exact absurd rfl g67
                                      | exact absurd rfl g128
                                      | exact absurd ewa g161
                                      | exact absurd ewb c5
                                      | (exfalso; omega)
    · rw [show bldD m = none from if_neg hgood] at hQ2
      obtain rfl : u2 = .tuple #[.slice none 0 0, .int .i64 90] := hQ2
      iterate 5 (refine st (h := O) ?_)
      refine nl ?_
      refine sq ?_
      refine J.weak (L0 := [(1, _), (2, _), (5, _), (6, _)]) (K0 := [(2, _)]) (by exact ⟨rfl, rfl, rfl, rfl, trivial⟩) (by exact ⟨rfl, rfl, trivial⟩) ?_
      refine rg ?_
      refine st (h := sdFA) ?_
      refine st (h := sdL) ?_
      iterate 2 (refine st (h := O) ?_)
      refine nl ?_
      iterate 2 (refine sq ?_)
      refine J.weak (L0 := [(1, _), (2, _), (5, _), (6, _), (7, _)]) (K0 := [(2, _)]) (by exact ⟨rfl, rfl, rfl, rfl, rfl, trivial⟩) (by exact ⟨rfl, rfl, trivial⟩) ?_
      refine rg ?_
      iterate 3 (refine st (h := O) ?_)
      refine gN (fun g28 => ?_) (fun g28 => ?_)
      · try (exfalso; omega)
        all_goals
          iterate 3 (refine sp ?_)
          iterate 2 (refine st (h := O) ?_)
          iterate 6 (refine sp ?_)
          iterate 2 (refine st (h := O) ?_)
          iterate 8 (refine sp ?_)
          iterate 2 (refine st (h := O) ?_)
          iterate 2 (refine sp ?_)
          iterate 2 (refine st (h := O) ?_)
          iterate 3 (refine sp ?_)
          refine st (h := O) ?_
          refine nl ?_
          refine cT ?_
          refine sq ?_
          refine J.weak (L0 := [(5, _), (6, _)]) (K0 := [(2, _)]) (by exact ⟨rfl, rfl, trivial⟩) (by exact ⟨rfl, rfl, trivial⟩) ?_
          refine rg ?_
          iterate 3 (refine st (h := O) ?_)
          refine gN (fun g62 => ?_) (fun g62 => ?_)
          · refine sp ?_
            iterate 2 (refine sp ?_)
            iterate 2 (refine st (h := O) ?_)
            refine clg (h := by exact fun ι hV hl => wakes_C _) ?_
            iterate 2 (refine st (h := O) ?_)
            refine nl ?_
            repeat refine J.dropF ?_
            first
              | exact rt ⟨rfl, rfl⟩
              | exact absurd rfl g62
              | exact absurd rfl g67
              | exact absurd rfl g128
              | exact absurd ewa g161
              | exact absurd ewb c5
              | (exfalso; omega)
          · refine sg (h := O) ?_
            iterate 2 (refine sg (h := O) ?_)
            iterate 2 (refine st (h := O) ?_)
            refine gD (fun g67 => ?_) (fun g67 => ?_)
            · refine clg (h := by exact fun ι hV hl => wakes_C _) ?_
              iterate 2 (refine st (h := O) ?_)
              refine nl ?_
              repeat refine J.dropF ?_
              first
                | exact rt ⟨rfl, rfl⟩
                | exact absurd rfl g62
                | exact absurd rfl g67
                | exact absurd rfl g128
                | exact absurd ewa g161
                | exact absurd ewb c5
                | (exfalso; omega)
            · refine sp ?_
              iterate 2 (refine st (h := O) ?_)
              refine nl ?_
              repeat refine J.dropF ?_
              first
                | exact rt ⟨rfl, rfl⟩
                | exact absurd rfl g62
                | exact absurd rfl g67
                | exact absurd rfl g128
                | exact absurd ewa g161
                | exact absurd ewb c5
                | (exfalso; omega)
      · try (exfalso; omega)
        all_goals
          iterate 3 (refine sg (h := O) ?_)
          iterate 2 (refine st (h := O) ?_)
          refine gN (fun g33 => ?_) (fun g33 => ?_)
          · try (exfalso; omega)
            all_goals
              iterate 6 (refine sp ?_)
              iterate 2 (refine st (h := O) ?_)
              iterate 8 (refine sp ?_)
              iterate 2 (refine st (h := O) ?_)
              iterate 2 (refine sp ?_)
              iterate 2 (refine st (h := O) ?_)
              iterate 3 (refine sp ?_)
              refine st (h := O) ?_
              refine nl ?_
              refine cT ?_
              refine sq ?_
              refine J.weak (L0 := [(5, _), (6, _)]) (K0 := [(2, _)]) (by exact ⟨rfl, rfl, trivial⟩) (by exact ⟨rfl, rfl, trivial⟩) ?_
              refine rg ?_
              iterate 3 (refine st (h := O) ?_)
              refine gN (fun g62 => ?_) (fun g62 => ?_)
              · refine sp ?_
                iterate 2 (refine sp ?_)
                iterate 2 (refine st (h := O) ?_)
                refine clg (h := by exact fun ι hV hl => wakes_C _) ?_
                iterate 2 (refine st (h := O) ?_)
                refine nl ?_
                repeat refine J.dropF ?_
                first
                  | exact rt ⟨rfl, rfl⟩
                  | exact absurd rfl g62
                  | exact absurd rfl g67
                  | exact absurd rfl g128
                  | exact absurd ewa g161
                  | exact absurd ewb c5
                  | (exfalso; omega)
              · refine sg (h := O) ?_
                iterate 2 (refine sg (h := O) ?_)
                iterate 2 (refine st (h := O) ?_)
                refine gD (fun g67 => ?_) (fun g67 => ?_)
                · refine clg (h := by exact fun ι hV hl => wakes_C _) ?_
                  iterate 2 (refine st (h := O) ?_)
                  refine nl ?_
                  repeat refine J.dropF ?_
                  first
                    | exact rt ⟨rfl, rfl⟩
                    | exact absurd rfl g62
                    | exact absurd rfl g67
                    | exact absurd rfl g128
                    | exact absurd ewa g161
                    | exact absurd ewb c5
                    | (exfalso; omega)
                · refine sp ?_
                  iterate 2 (refine st (h := O) ?_)
                  refine nl ?_
                  repeat refine J.dropF ?_
                  first
                    | exact rt ⟨rfl, rfl⟩
                    | exact absurd rfl g62
                    | exact absurd rfl g67
                    | exact absurd rfl g128
                    | exact absurd ewa g161
                    | exact absurd ewb c5
                    | (exfalso; omega)
          · refine sg (h := O) ?_
            refine sg (h := (sdX (z := 2))) ?_
            refine sg (h := sdFA) ?_
            refine sg (h := sdL) ?_
            iterate 2 (refine sg (h := O) ?_)
            iterate 2 (refine st (h := O) ?_)
            refine gN (fun g41 => ?_) (fun g41 => ?_)
            · try (exfalso; omega)
              all_goals
                iterate 8 (refine sp ?_)
                iterate 2 (refine st (h := O) ?_)
                iterate 2 (refine sp ?_)
                iterate 2 (refine st (h := O) ?_)
                iterate 3 (refine sp ?_)
                refine st (h := O) ?_
                refine nl ?_
                refine cT ?_
                refine sq ?_
                refine J.weak (L0 := [(5, _), (6, _)]) (K0 := [(2, _)]) (by exact ⟨rfl, rfl, trivial⟩) (by exact ⟨rfl, rfl, trivial⟩) ?_
                refine rg ?_
                iterate 3 (refine st (h := O) ?_)
                refine gN (fun g62 => ?_) (fun g62 => ?_)
                · refine sp ?_
                  iterate 2 (refine sp ?_)
                  iterate 2 (refine st (h := O) ?_)
                  refine clg (h := by exact fun ι hV hl => wakes_C _) ?_
                  iterate 2 (refine st (h := O) ?_)
                  refine nl ?_
                  repeat refine J.dropF ?_
                  first
                    | exact rt ⟨rfl, rfl⟩
                    | exact absurd rfl g62
                    | exact absurd rfl g67
                    | exact absurd rfl g128
                    | exact absurd ewa g161
                    | exact absurd ewb c5
                    | (exfalso; omega)
                · refine sg (h := O) ?_
                  iterate 2 (refine sg (h := O) ?_)
                  iterate 2 (refine st (h := O) ?_)
                  refine gD (fun g67 => ?_) (fun g67 => ?_)
                  · refine clg (h := by exact fun ι hV hl => wakes_C _) ?_
                    iterate 2 (refine st (h := O) ?_)
                    refine nl ?_
                    repeat refine J.dropF ?_
                    first
                      | exact rt ⟨rfl, rfl⟩
                      | exact absurd rfl g62
                      | exact absurd rfl g67
                      | exact absurd rfl g128
                      | exact absurd ewa g161
                      | exact absurd ewb c5
                      | (exfalso; omega)
                  · refine sp ?_
                    iterate 2 (refine st (h := O) ?_)
                    refine nl ?_
                    repeat refine J.dropF ?_
                    first
                      | exact rt ⟨rfl, rfl⟩
                      | exact absurd rfl g62
                      | exact absurd rfl g67
                      | exact absurd rfl g128
                      | exact absurd ewa g161
                      | exact absurd ewb c5
                      | (exfalso; omega)
            · refine sg (h := O) ?_
              refine sg (h := (sdX (z := 2))) ?_
              refine sg (h := sdFA) ?_
              refine sg (h := sdL) ?_
              iterate 2 (refine sg (h := O) ?_)
              refine sg (h := sdM) ?_
              refine sg (h := O) ?_
              iterate 2 (refine st (h := O) ?_)
              refine gN (fun g51 => ?_) (fun g51 => ?_)
              · try (exfalso; omega)
                all_goals
                  iterate 2 (refine sp ?_)
                  iterate 2 (refine st (h := O) ?_)
                  iterate 3 (refine sp ?_)
                  refine st (h := O) ?_
                  refine nl ?_
                  refine cT ?_
                  refine sq ?_
                  refine J.weak (L0 := [(5, _), (6, _)]) (K0 := [(2, _)]) (by exact ⟨rfl, rfl, trivial⟩) (by exact ⟨rfl, rfl, trivial⟩) ?_
                  refine rg ?_
                  iterate 3 (refine st (h := O) ?_)
                  refine gN (fun g62 => ?_) (fun g62 => ?_)
                  · refine sp ?_
                    iterate 2 (refine sp ?_)
                    iterate 2 (refine st (h := O) ?_)
                    refine clg (h := by exact fun ι hV hl => wakes_C _) ?_
                    iterate 2 (refine st (h := O) ?_)
                    refine nl ?_
                    repeat refine J.dropF ?_
                    first
                      | exact rt ⟨rfl, rfl⟩
                      | exact absurd rfl g62
                      | exact absurd rfl g67
                      | exact absurd rfl g128
                      | exact absurd ewa g161
                      | exact absurd ewb c5
                      | (exfalso; omega)
                  · refine sg (h := O) ?_
                    iterate 2 (refine sg (h := O) ?_)
                    iterate 2 (refine st (h := O) ?_)
                    refine gD (fun g67 => ?_) (fun g67 => ?_)
                    · refine clg (h := by exact fun ι hV hl => wakes_C _) ?_
                      iterate 2 (refine st (h := O) ?_)
                      refine nl ?_
                      repeat refine J.dropF ?_
                      first
                        | exact rt ⟨rfl, rfl⟩
                        | exact absurd rfl g62
                        | exact absurd rfl g67
                        | exact absurd rfl g128
                        | exact absurd ewa g161
                        | exact absurd ewb c5
                        | (exfalso; omega)
                    · refine sp ?_
                      iterate 2 (refine st (h := O) ?_)
                      refine nl ?_
                      repeat refine J.dropF ?_
                      first
                        | exact rt ⟨rfl, rfl⟩
                        | exact absurd rfl g62
                        | exact absurd rfl g67
                        | exact absurd rfl g128
                        | exact absurd ewa g161
                        | exact absurd ewb c5
                        | (exfalso; omega)
              · refine sg (h := O) ?_
                refine sg (h := O) ?_
                iterate 2 (refine st (h := O) ?_)
                refine gD (fun g55 => ?_) (fun g55 => ?_)
                · refine sp ?_
                  iterate 2 (refine sp ?_)
                  refine st (h := O) ?_
                  refine nl ?_
                  refine cT ?_
                  refine sq ?_
                  refine J.weak (L0 := [(5, _), (6, _)]) (K0 := [(2, _)]) (by exact ⟨rfl, rfl, trivial⟩) (by exact ⟨rfl, rfl, trivial⟩) ?_
                  refine rg ?_
                  iterate 3 (refine st (h := O) ?_)
                  refine gN (fun g62 => ?_) (fun g62 => ?_)
                  · refine sp ?_
                    iterate 2 (refine sp ?_)
                    iterate 2 (refine st (h := O) ?_)
                    refine clg (h := by exact fun ι hV hl => wakes_C _) ?_
                    iterate 2 (refine st (h := O) ?_)
                    refine nl ?_
                    repeat refine J.dropF ?_
                    first
                      | exact rt ⟨rfl, rfl⟩
                      | exact absurd rfl g62
                      | exact absurd rfl g67
                      | exact absurd rfl g128
                      | exact absurd ewa g161
                      | exact absurd ewb c5
                      | (exfalso; omega)
                  · refine sg (h := O) ?_
                    iterate 2 (refine sg (h := O) ?_)
                    iterate 2 (refine st (h := O) ?_)
                    refine gD (fun g67 => ?_) (fun g67 => ?_)
                    · refine clg (h := by exact fun ι hV hl => wakes_C _) ?_
                      iterate 2 (refine st (h := O) ?_)
                      refine nl ?_
                      repeat refine J.dropF ?_
                      first
                        | exact rt ⟨rfl, rfl⟩
                        | exact absurd rfl g62
                        | exact absurd rfl g67
                        | exact absurd rfl g128
                        | exact absurd ewa g161
                        | exact absurd ewb c5
                        | (exfalso; omega)
                    · refine sp ?_
                      iterate 2 (refine st (h := O) ?_)
                      refine nl ?_
                      repeat refine J.dropF ?_
                      first
                        | exact rt ⟨rfl, rfl⟩
                        | exact absurd rfl g62
                        | exact absurd rfl g67
                        | exact absurd rfl g128
                        | exact absurd ewa g161
                        | exact absurd ewb c5
                        | (exfalso; omega)
                · refine sg (h := O) ?_
                  iterate 2 (refine sg (h := O) ?_)
                  refine st (h := O) ?_
                  refine nl ?_
                  refine cD (fun c1 => ?_) (fun c1 => ?_)
                  · refine sq ?_
                    refine J.weak (L0 := [(5, _), (6, _)]) (K0 := [(2, _)]) (by exact ⟨rfl, rfl, trivial⟩) (by exact ⟨rfl, rfl, trivial⟩) ?_
                    refine rg ?_
                    iterate 3 (refine st (h := O) ?_)
                    refine gN (fun g62 => ?_) (fun g62 => ?_)
                    · refine sp ?_
                      iterate 2 (refine sp ?_)
                      iterate 2 (refine st (h := O) ?_)
                      refine clg (h := by exact fun ι hV hl => wakes_C _) ?_
                      iterate 2 (refine st (h := O) ?_)
                      refine nl ?_
                      repeat refine J.dropF ?_
                      first
                        | exact rt ⟨rfl, rfl⟩
                        | exact absurd rfl g62
                        | exact absurd rfl g67
                        | exact absurd rfl g128
                        | exact absurd ewa g161
                        | exact absurd ewb c5
                        | (exfalso; omega)
                    · refine sg (h := O) ?_
                      iterate 2 (refine sg (h := O) ?_)
                      iterate 2 (refine st (h := O) ?_)
                      refine gD (fun g67 => ?_) (fun g67 => ?_)
                      · refine clg (h := by exact fun ι hV hl => wakes_C _) ?_
                        iterate 2 (refine st (h := O) ?_)
                        refine nl ?_
                        repeat refine J.dropF ?_
                        first
                          | exact rt ⟨rfl, rfl⟩
                          | exact absurd rfl g62
                          | exact absurd rfl g67
                          | exact absurd rfl g128
                          | exact absurd ewa g161
                          | exact absurd ewb c5
                          | (exfalso; omega)
                      · refine sp ?_
                        iterate 2 (refine st (h := O) ?_)
                        refine nl ?_
                        repeat refine J.dropF ?_
                        first
                          | exact rt ⟨rfl, rfl⟩
                          | exact absurd rfl g62
                          | exact absurd rfl g67
                          | exact absurd rfl g128
                          | exact absurd ewa g161
                          | exact absurd ewb c5
                          | (exfalso; omega)
                  · obtain ⟨q, rfl⟩ : ∃ q : Nat, h = q := ⟨h.toNat, by omega⟩
                    have hq1 : 1 ≤ q := by omega
                    have hqn : q ≤ m.adv.length := by omega
                    have hcut : (tx (hmtxN m m.adv.length)).extract 0 (4 * q) = tx (shortN m q 0) := by
                      rw [ext_tx, List.drop_zero, hmtxN_take m _ hqn]
                      show tx _ = tx (_ ++ [])
                      rw [List.append_nil]
                    refine sk ?_
                    refine sq ?_
                    refine J.weak (L0 := [(1, _), (2, _), (5, _), (7, _)]) (K0 := [(2, _)]) (by exact ⟨rfl, rfl, rfl, rfl, trivial⟩) (by exact ⟨rfl, rfl, trivial⟩) ?_
                    refine rg ?_
                    refine st (h := O) ?_
                    refine st (h := (sdX (z := 2))) ?_
                    refine st (h := sdFA) ?_
                    refine st (h := sdL) ?_
                    refine st (h := O) ?_
                    refine st (h := sdM) ?_
                    refine st (h := sdCut 0 (4 * q)) ?_
                    refine strB (n := 4 * q) (shortN m q 0) 77 hcut (shortN_bys m q 0) ?_ (by rw [shortN_length]; omega) (hs := by rw [shortN_length]; omega)
                    intro cap7 hc7 hd7
                    refine st (h := O) ?_
                    refine nl ?_
                    iterate 2 (refine sq ?_)
                    refine J.weak (L0 := [(1, _), (2, _), (5, _), (7, _), (8, _)]) (K0 := [(77, _), (2, _)]) (by exact ⟨rfl, rfl, rfl, rfl, rfl, trivial⟩) (by exact ⟨rfl, rfl, rfl, rfl, trivial⟩) ?_
                    refine rg ?_
                    iterate 2 (refine st (h := O) ?_)
                    refine nl ?_
                    refine bl ?_
                    refine J.loop4 (α := Nat) (β := Nat) (γ := Nat) (δ := List Value) (fun n j cp ca => j ≤ m.adv.length - q ∧ n = 4 * q + 2 * j ∧ n ≤ cp ∧ cp ≤ 9223372036854775807 ∧ ca = bvs (shortN m q j)) (fun n j cp ca => [(8, .slice (some ⟨77, 0, some 0⟩) n cp), (9, .int .i64 ((q + j : Nat) : Int))]) [(1, _), (2, _), (5, _), (7, _)] (fun n j cp ca => [(77, { elem := 5, cs := ca, room := cp * 1, fz := true, flat := true })]) [(2, _)] (fun n j cp ca => m.adv.length - q - j) (4 * q) (0) (_) (_) (by exact ⟨rfl, rfl, trivial⟩) (by exact ⟨rfl, rfl, rfl, rfl, trivial⟩) (by exact ⟨rfl, rfl, rfl, rfl, trivial⟩) ?_ ?_
                    · exact ⟨Nat.zero_le _, rfl, hc7, hd7, rfl⟩
                    · intro n j cp ca L1 K1 e1 e2 hI
                      dsimp only [apV, apR, List.cons_append, List.nil_append] at e1 e2
                      subst e1 e2
                      obtain ⟨hj, hn8, hcp, hcp2, hca⟩ := hI
                      iterate 2 (refine sq ?_)
                      refine rg ?_
                      iterate 3 (refine st (h := O) ?_)
                      refine nl ?_
                      refine cD (fun c2 => ?_) (fun c2 => ?_)
                      · have hjl : q + j < m.adv.length := by omega
                        have hcl : ca.length = n := by rw [hca, bvs_length, shortN_length, hn8]
                        refine sk ?_
                        refine sq ?_
                        refine bl ?_
                        refine rg ?_
                        iterate 2 (refine st (h := O) ?_)
                        refine st (h := (sdX (z := 2))) ?_
                        refine st (h := sdFA) ?_
                        refine st (h := sdL) ?_
                        refine st (h := O) ?_
                        refine st (h := sdM) ?_
                        refine st (h := sdA) ?_
                        refine st (h := O) ?_
                        refine st (h := sdM) ?_
                        refine st (h := sdA) ?_
                        refine st (h := sdCut (4 * (q + j) + 2) (4 * (q + j) + 4)) ?_
                        refine apO 1096 77 [(1, _), (2, _), (5, _), (7, _), (9, _)] [(2, _)] ?_ (m := 2) (news := bvs (tb2 (ints m.bear (q + j)))) (happ := by rw [hmtx_part m hjl]; exact appTx2 _) (hol := by show ca.length = n * 1; omega)
                        intro cap8 hc8 hd8
                        refine st (h := O) ?_
                        refine nl ?_
                        refine bk ?_
                        refine rg ?_
                        refine st (h := O) ?_
                        refine st (h := sdA) ?_
                        refine st (h := O) ?_
                        refine nl ?_
                        refine bk4 (_) (j + 1) (_) (_) (by exact ⟨rfl, rfl, trivial⟩) (by exact ⟨rfl, rfl, rfl, rfl, trivial⟩) (by exact ⟨rfl, rfl, rfl, rfl, trivial⟩) ?_ ?_
                        · omega
                        · refine ⟨by omega, by omega, hc8, hd8, ?_⟩
                          show ca ++ bvs _ = _
                          rw [hca, shortN, shortN, brN, ← List.append_assoc, bvs_append (hmtxN m q ++ brN m q j)]
                      · obtain rfl : j = m.adv.length - q := by omega
                        have e34 : (tx (hheaN m)).extract 0 34 ++ tx [hiB q, loB q] = tx (hhN m q) := by rw [ext_tx]; exact hhN_cut m q
                        refine ex ?_
                        refine sq ?_
                        refine J.weak (L0 := [(1, _), (2, _), (5, _), (7, _), (8, _)]) (K0 := [(77, _), (2, _)]) (by exact ⟨rfl, rfl, rfl, rfl, rfl, trivial⟩) (by exact ⟨rfl, rfl, rfl, rfl, trivial⟩) ?_
                        refine dr 14 [77, 2] [0, 1, 2, 3, 4, 5, 6, 7, 8, 9, 1010, 1011, 12, 13] ?_
                        refine dt (hv := by exact O) ?_
                        refine dt (hv := by exact (sdX (z := 2))) ?_
                        refine dt (hv := by exact sdFA) ?_
                        refine dt (hv := by exact sdL) ?_
                        refine dt (hv := by exact sdCut 0 34) ?_
                        refine dt (hv := by exact O) ?_
                        refine dt (hv := by exact sdSr) ?_
                        iterate 3 (refine dt (hv := by exact O) ?_)
                        refine dsl ?_
                        refine dv (hv := by exact sdTx (ns := [hiB q, loB q])) ?_
                        refine dt (hv := by exact (sdCt (h := by rw [ext_tx, tx_size, tx_size, List.drop_zero, List.length_take, hheaN_length]; show min 34 36 + 2 ≤ _; omega)).cast (congrArg Value.string e34)) ?_
                        refine dt (hv := by exact O) ?_
                        refine dn ?_
                        refine sq ?_
                        refine J.weak (L0 := [(1, _), (2, _), (5, _), (7, _), (8, _), (10, _)]) (K0 := [(107, _), (77, _), (2, _)]) (by exact ⟨rfl, rfl, rfl, rfl, rfl, rfl, trivial⟩) (by exact ⟨rfl, rfl, rfl, rfl, rfl, rfl, trivial⟩) ?_
                        refine dr 17 [107, 77, 2] [0, 1, 2, 3, 4, 5, 6, 7, 8, 9, 10, 5008] ?_
                        refine dt (hv := by exact O) ?_
                        refine dt (hv := by exact (sdX (z := 2))) ?_
                        refine dt (hv := by exact sdLN (hv := by exact q0 _)) ?_
                        iterate 3 (refine dt (hv := by exact O) ?_)
                        refine dt (hv := by exact sdTx (ns := shortN m q (m.adv.length - q)) (hcs := by exact hca) (hn := by rw [shortN_length, hn8])) ?_
                        iterate 2 (refine dt (hv := by exact O) ?_)
                        refine dt (hv := by exact (sdX (z := 2))) ?_
                        refine dt (hv := by exact sdLN (hv := by exact q3 _)) ?_
                        refine JD.alt (i := 11) (j := 16) [5007] [1011, 1012, 13, 14, 2015, 1017, 2018] ?_ ?_
                        · refine jsl (hkp := by first | exact Kept.all | exact Kept.k0 | exact Kept.kY | exact Kept.kYY | exact Kept.kY3) ?_
                          refine JD.alt (i := 12) (j := 16) [13, 14, 2015, 1016, 1017, 2018] [1012, 13, 14, 2015, 1017, 2018] ?_ ?_
                          · refine jclC (hkp := by first | exact Kept.all | exact Kept.k0 | exact Kept.kY | exact Kept.kYY | exact Kept.kY3) (h := by exact fun ι hV hl => mRead_C _ _ (tbsS m q) (Val.tbs (l := tbsS m q) hV rfl rfl (Nat.le_of_ble_eq_true rfl)) (tbsS_size hn hqn)) ?_
                            intro u3 Y3 hQ3 hv3 hp3 hN3
                            obtain ⟨w, hw, hwa, hwb⟩ := read_tbsS hgood hq1 hqn
                            rw [hw] at hQ3
                            obtain ⟨b6, c6, b7, c7, rfl, hR3⟩ := hQ3
                            obtain ⟨hA3, hB3⟩ := hR3 _ hN3.rows
                            have hga3 := hga2.le hN3.le
                            have hha3 := hha2.le hN3.le
                            have hwl : w.adv.length = m.adv.length := by rw [hwa]; simp
                            have hwl2 : w.bear.length = m.adv.length := by rw [hwb]; exact hbl
                            iterate 2 (refine dt (hv := by exact O) ?_)
                            refine dq (hv := by exact fun _ _ => O) ?_
                            refine dal (hkp := by first | exact Kept.all | exact Kept.k0 | exact Kept.kY | exact Kept.kYY | exact Kept.kY3) ?_
                            refine dso (hkp := by first | exact Kept.all | exact Kept.k0 | exact Kept.kY | exact Kept.kYY | exact Kept.kY3) ?_
                            refine dq (hv := by exact fun _ _ => O) ?_
                            refine dn ?_
                            iterate 2 (refine sq ?_)
                            refine J.weak (L0 := [(1, _), (2, _), (7, _), (11, _), (12, _)]) (K0 := [(11, _), (122, _), (107, _), (77, _), (2, _)]) (by exact ⟨rfl, rfl, rfl, rfl, rfl, trivial⟩) (by exact ⟨rfl, rfl, rfl, rfl, rfl, rfl, rfl, rfl, rfl, rfl, trivial⟩) ?_
                            refine rg ?_
                            iterate 3 (refine st (h := O) ?_)
                            refine gN (fun g128 => ?_) (fun g128 => ?_)
                            · refine sp ?_
                              iterate 4 (refine sp ?_)
                              iterate 2 (refine st (h := O) ?_)
                              iterate 5 (refine sp ?_)
                              refine st (h := O) ?_
                              refine nl ?_
                              refine cT ?_
                              refine sq ?_
                              refine rg ?_
                              refine st (h := O) ?_
                              refine nl ?_
                              repeat refine J.dropF ?_
                              first
                                | exact rt ⟨rfl, rfl⟩
                                | exact absurd rfl g62
                                | exact absurd rfl g67
                                | exact absurd rfl g128
                                | exact absurd ewa g161
                                | exact absurd ewb c5
                                | (exfalso; omega)
                            · refine sg (h := sdFA) ?_
                              refine sg (h := sdL) ?_
                              iterate 3 (refine sg (h := O) ?_)
                              iterate 2 (refine st (h := O) ?_)
                              refine gN (fun g135 => ?_) (fun g135 => ?_)
                              · refine sp ?_
                                iterate 4 (refine sp ?_)
                                refine st (h := O) ?_
                                refine nl ?_
                                refine cT ?_
                                refine sq ?_
                                refine rg ?_
                                refine st (h := O) ?_
                                refine nl ?_
                                repeat refine J.dropF ?_
                                first
                                  | exact rt ⟨rfl, rfl⟩
                                  | exact absurd rfl g62
                                  | exact absurd rfl g67
                                  | exact absurd rfl g128
                                  | exact absurd ewa g161
                                  | exact absurd ewb c5
                                  | (exfalso; omega)
                              · refine sg (h := sdFA) ?_
                                refine sg (h := sdL) ?_
                                iterate 3 (refine sg (h := O) ?_)
                                refine st (h := O) ?_
                                refine nl ?_
                                refine cN (fun c3 => ?_) (fun c3 => ?_)
                                · refine sq ?_
                                  refine rg ?_
                                  refine st (h := O) ?_
                                  refine nl ?_
                                  repeat refine J.dropF ?_
                                  first
                                    | exact rt ⟨rfl, rfl⟩
                                    | exact absurd rfl g62
                                    | exact absurd rfl g67
                                    | exact absurd rfl g128
                                    | exact absurd ewa g161
                                    | exact absurd ewb c5
                                    | (exfalso; omega)
                                · refine sk ?_
                                  iterate 2 (refine sq ?_)
                                  refine J.weak (L0 := [(1, _), (2, _), (7, _), (11, _)]) (K0 := [(11, _), (122, _), (107, _), (77, _), (2, _)]) (by exact ⟨rfl, rfl, rfl, rfl, trivial⟩) (by exact ⟨rfl, rfl, rfl, rfl, rfl, rfl, rfl, rfl, rfl, rfl, trivial⟩) ?_
                                  refine rg ?_
                                  refine st (h := O) ?_
                                  refine nl ?_
                                  refine bl ?_
                                  refine J.loop1 (α := Nat) (fun k => k ≤ m.adv.length) (fun k => [(13, .int .i64 k)]) [(1, _), (2, _), (7, _), (11, _)] (fun k => []) [(11, _), (122, _), (107, _), (77, _), (2, _)] (fun k => m.adv.length - k) (0) (by exact ⟨rfl, trivial⟩) (by exact ⟨rfl, rfl, rfl, rfl, trivial⟩) (by exact ⟨rfl, rfl, rfl, rfl, rfl, rfl, rfl, rfl, rfl, rfl, trivial⟩) ?_ ?_
                                  · exact Nat.zero_le _
                                  · intro k L1 K1 e1 e2 hI
                                    dsimp only [apV, apR, List.cons_append, List.nil_append] at e1 e2
                                    subst e1 e2
                                    iterate 2 (refine sq ?_)
                                    refine rg ?_
                                    iterate 3 (refine st (h := O) ?_)
                                    refine nl ?_
                                    refine cD (fun c4 => ?_) (fun c4 => ?_)
                                    · have hkl : k < m.adv.length := by omega
                                      have hmq : min k (q - 1) < m.adv.length := by omega
                                      obtain ⟨x6, o6, e6, hr6⟩ := hA3.rd (by omega)
                                      simp only [Option.some.injEq, Addr.mk.injEq] at e6
                                      obtain ⟨rfl, rfl, _⟩ := e6
                                      obtain ⟨x7, o7, e7, hr7⟩ := hB3.rd (by omega)
                                      simp only [Option.some.injEq, Addr.mk.injEq] at e7
                                      obtain ⟨rfl, rfl, _⟩ := e7
                                      obtain ⟨ab, ao, rfl, har⟩ := hga3.rd (by omega)
                                      obtain ⟨bb, bo, rfl, hbr⟩ := hha3.rd (by omega)
                                      have ewa : ints w.adv k = ints m.adv (min k (q - 1)) := by rw [hwa]; exact ints_mr hkl
                                      have ewb : ints w.bear k = ints m.bear k := by rw [hwb]
                                      have y1 := hr6 k _ (ints_get (by omega))
                                      have y2 := har _ _ (ints_get hmq)
                                      have y3 := hr7 k _ (ints_get (by omega))
                                      have y4 := hbr k _ (ints_get (xs := m.bear) (by omega))
                                      rw [show 0 + k = 0 + (k : Int).toNat * 1 from by omega] at y1 y3
                                      rw [show ao + min k (q - 1) = ao + (min (k : Int) ((q : Int) - 1)).toNat * 1 from by omega] at y2
                                      rw [show bo + k = bo + (k : Int).toNat * 1 from by omega] at y4
                                      refine sk ?_
                                      refine sq ?_
                                      refine bl ?_
                                      refine sq ?_
                                      refine dr 27 [11, 122, 107, 77, 2] [0, 1, 2, 3, 4, 5, 6, 7, 8, 9, 10, 11, 12, 13, 14, 15, 16, 17, 18, 19, 20, 21, 22, 23, 24, 25, 26] ?_
                                      refine dt (hv := by exact sdFA) ?_
                                      refine dt (hv := by exact sdL) ?_
                                      refine dt (hv := by exact O) ?_
                                      refine dt (hv := by exact (sdX (z := 1))) ?_
                                      refine dt (hv := by exact (by first | exact sdLG | exact sdW)) ?_
                                      refine dt (hv := by exact sdFA) ?_
                                      refine dt (hv := by exact sdL) ?_
                                      iterate 2 (refine dt (hv := by exact O) ?_)
                                      refine dt (hv := by exact sdS) ?_
                                      refine dt (hv := by exact O) ?_
                                      refine dt (hv := by exact (sdX (z := 1))) ?_
                                      refine dt (hv := by exact (by first | exact sdLG | exact sdW)) ?_
                                      iterate 2 (refine dt (hv := by exact O) ?_)
                                      refine dgN (fun g161 => ?_) (fun g161 => ?_)
                                      · refine dp ?_
                                        iterate 10 (refine dp ?_)
                                        refine dt (hv := by exact O) ?_
                                        refine dn ?_
                                        refine cT ?_
                                        refine sq ?_
                                        refine rg ?_
                                        refine st (h := O) ?_
                                        refine nl ?_
                                        repeat refine J.dropF ?_
                                        first
                                          | exact rt ⟨rfl, rfl⟩
                                          | exact absurd rfl g62
                                          | exact absurd rfl g67
                                          | exact absurd rfl g128
                                          | exact absurd ewa g161
                                          | exact absurd ewb c5
                                          | (exfalso; omega)
                                      · refine dg (hv := by exact sdFA) ?_
                                        refine dg (hv := by exact sdL) ?_
                                        refine dg (hv := by exact O) ?_
                                        refine dg (hv := by exact (sdX (z := 1))) ?_
                                        refine dg (hv := by exact (by first | exact sdLG | exact sdW)) ?_
                                        refine dg (hv := by exact sdFA) ?_
                                        refine dg (hv := by exact sdL) ?_
                                        refine dg (hv := by exact O) ?_
                                        refine dg (hv := by exact (sdX (z := 1))) ?_
                                        refine dg (hv := by exact (by first | exact sdLG | exact sdW)) ?_
                                        refine dg (hv := by exact O) ?_
                                        refine dt (hv := by exact O) ?_
                                        refine dn ?_
                                        refine cN (fun c5 => ?_) (fun c5 => ?_)
                                        · refine sq ?_
                                          refine rg ?_
                                          refine st (h := O) ?_
                                          refine nl ?_
                                          repeat refine J.dropF ?_
                                          first
                                            | exact rt ⟨rfl, rfl⟩
                                            | exact absurd rfl g62
                                            | exact absurd rfl g67
                                            | exact absurd rfl g128
                                            | exact absurd ewa g161
                                            | exact absurd ewb c5
                                            | (exfalso; omega)
                                        · refine sk ?_
                                          refine bk ?_
                                          refine rg ?_
                                          refine st (h := O) ?_
                                          refine st (h := sdA) ?_
                                          refine st (h := O) ?_
                                          refine nl ?_
                                          refine bk1 (k + 1) (by exact ⟨rfl, trivial⟩) (by exact ⟨rfl, rfl, rfl, rfl, trivial⟩) (by exact ⟨rfl, rfl, rfl, rfl, rfl, rfl, rfl, rfl, rfl, rfl, trivial⟩) ?_ ?_
                                          · omega
                                          · omega
                                    · refine ex ?_
                                      refine sq ?_
                                      refine J.weak (L0 := []) (K0 := [(11, _), (122, _), (107, _), (77, _), (2, _)]) (by exact trivial) (by exact ⟨rfl, rfl, rfl, rfl, rfl, rfl, rfl, rfl, rfl, rfl, trivial⟩) ?_
                                      refine rg ?_
                                      refine cl (h := by exact fun ι hV hl => wakes_C _) ?_
                                      refine st (h := O) ?_
                                      refine nl ?_
                                      repeat refine J.dropF ?_
                                      first
                                        | exact rt ⟨rfl, rfl⟩
                                        | exact absurd rfl g62
                                        | exact absurd rfl g67
                                        | exact absurd rfl g128
                                        | exact absurd ewa g161
                                        | exact absurd ewb c5
                                        | (exfalso; omega)
                          · refine jal (hkp := by first | exact Kept.all | exact Kept.k0 | exact Kept.kY | exact Kept.kYY | exact Kept.kY3) ?_
                            refine dclC (hkp := by first | exact Kept.all | exact Kept.k0 | exact Kept.kY | exact Kept.kYY | exact Kept.kY3) (h := by exact fun ι hV hl => mRead_C _ _ (tbsS m q) (Val.tbs (l := tbsS m q) hV rfl rfl (Nat.le_of_ble_eq_true rfl)) (tbsS_size hn hqn)) ?_
                            intro u3 Y3 hQ3 hv3 hp3 hN3
                            obtain ⟨w, hw, hwa, hwb⟩ := read_tbsS hgood hq1 hqn
                            rw [hw] at hQ3
                            obtain ⟨b6, c6, b7, c7, rfl, hR3⟩ := hQ3
                            obtain ⟨hA3, hB3⟩ := hR3 _ hN3.rows
                            have hga3 := hga2.le hN3.le
                            have hha3 := hha2.le hN3.le
                            have hwl : w.adv.length = m.adv.length := by rw [hwa]; simp
                            have hwl2 : w.bear.length = m.adv.length := by rw [hwb]; exact hbl
                            iterate 2 (refine dt (hv := by exact O) ?_)
                            refine dq (hv := by exact fun _ _ => O) ?_
                            refine dso (hkp := by first | exact Kept.all | exact Kept.k0 | exact Kept.kY | exact Kept.kYY | exact Kept.kY3) ?_
                            refine dq (hv := by exact fun _ _ => O) ?_
                            refine dn ?_
                            iterate 2 (refine sq ?_)
                            refine J.weak (L0 := [(1, _), (2, _), (7, _), (11, _), (12, _)]) (K0 := [(11, _), (122, _), (107, _), (77, _), (2, _)]) (by exact ⟨rfl, rfl, rfl, rfl, rfl, trivial⟩) (by exact ⟨rfl, rfl, rfl, rfl, rfl, rfl, rfl, rfl, rfl, rfl, trivial⟩) ?_
                            refine rg ?_
                            iterate 3 (refine st (h := O) ?_)
                            refine gN (fun g128 => ?_) (fun g128 => ?_)
                            · refine sp ?_
                              iterate 4 (refine sp ?_)
                              iterate 2 (refine st (h := O) ?_)
                              iterate 5 (refine sp ?_)
                              refine st (h := O) ?_
                              refine nl ?_
                              refine cT ?_
                              refine sq ?_
                              refine rg ?_
                              refine st (h := O) ?_
                              refine nl ?_
                              repeat refine J.dropF ?_
                              first
                                | exact rt ⟨rfl, rfl⟩
                                | exact absurd rfl g62
                                | exact absurd rfl g67
                                | exact absurd rfl g128
                                | exact absurd ewa g161
                                | exact absurd ewb c5
                                | (exfalso; omega)
                            · refine sg (h := sdFA) ?_
                              refine sg (h := sdL) ?_
                              iterate 3 (refine sg (h := O) ?_)
                              iterate 2 (refine st (h := O) ?_)
                              refine gN (fun g135 => ?_) (fun g135 => ?_)
                              · refine sp ?_
                                iterate 4 (refine sp ?_)
                                refine st (h := O) ?_
                                refine nl ?_
                                refine cT ?_
                                refine sq ?_
                                refine rg ?_
                                refine st (h := O) ?_
                                refine nl ?_
                                repeat refine J.dropF ?_
                                first
                                  | exact rt ⟨rfl, rfl⟩
                                  | exact absurd rfl g62
                                  | exact absurd rfl g67
                                  | exact absurd rfl g128
                                  | exact absurd ewa g161
                                  | exact absurd ewb c5
                                  | (exfalso; omega)
                              · refine sg (h := sdFA) ?_
                                refine sg (h := sdL) ?_
                                iterate 3 (refine sg (h := O) ?_)
                                refine st (h := O) ?_
                                refine nl ?_
                                refine cN (fun c3 => ?_) (fun c3 => ?_)
                                · refine sq ?_
                                  refine rg ?_
                                  refine st (h := O) ?_
                                  refine nl ?_
                                  repeat refine J.dropF ?_
                                  first
                                    | exact rt ⟨rfl, rfl⟩
                                    | exact absurd rfl g62
                                    | exact absurd rfl g67
                                    | exact absurd rfl g128
                                    | exact absurd ewa g161
                                    | exact absurd ewb c5
                                    | (exfalso; omega)
                                · refine sk ?_
                                  iterate 2 (refine sq ?_)
                                  refine J.weak (L0 := [(1, _), (2, _), (7, _), (11, _)]) (K0 := [(11, _), (122, _), (107, _), (77, _), (2, _)]) (by exact ⟨rfl, rfl, rfl, rfl, trivial⟩) (by exact ⟨rfl, rfl, rfl, rfl, rfl, rfl, rfl, rfl, rfl, rfl, trivial⟩) ?_
                                  refine rg ?_
                                  refine st (h := O) ?_
                                  refine nl ?_
                                  refine bl ?_
                                  refine J.loop1 (α := Nat) (fun k => k ≤ m.adv.length) (fun k => [(13, .int .i64 k)]) [(1, _), (2, _), (7, _), (11, _)] (fun k => []) [(11, _), (122, _), (107, _), (77, _), (2, _)] (fun k => m.adv.length - k) (0) (by exact ⟨rfl, trivial⟩) (by exact ⟨rfl, rfl, rfl, rfl, trivial⟩) (by exact ⟨rfl, rfl, rfl, rfl, rfl, rfl, rfl, rfl, rfl, rfl, trivial⟩) ?_ ?_
                                  · exact Nat.zero_le _
                                  · intro k L1 K1 e1 e2 hI
                                    dsimp only [apV, apR, List.cons_append, List.nil_append] at e1 e2
                                    subst e1 e2
                                    iterate 2 (refine sq ?_)
                                    refine rg ?_
                                    iterate 3 (refine st (h := O) ?_)
                                    refine nl ?_
                                    refine cD (fun c4 => ?_) (fun c4 => ?_)
                                    · have hkl : k < m.adv.length := by omega
                                      have hmq : min k (q - 1) < m.adv.length := by omega
                                      obtain ⟨x6, o6, e6, hr6⟩ := hA3.rd (by omega)
                                      simp only [Option.some.injEq, Addr.mk.injEq] at e6
                                      obtain ⟨rfl, rfl, _⟩ := e6
                                      obtain ⟨x7, o7, e7, hr7⟩ := hB3.rd (by omega)
                                      simp only [Option.some.injEq, Addr.mk.injEq] at e7
                                      obtain ⟨rfl, rfl, _⟩ := e7
                                      obtain ⟨ab, ao, rfl, har⟩ := hga3.rd (by omega)
                                      obtain ⟨bb, bo, rfl, hbr⟩ := hha3.rd (by omega)
                                      have ewa : ints w.adv k = ints m.adv (min k (q - 1)) := by rw [hwa]; exact ints_mr hkl
                                      have ewb : ints w.bear k = ints m.bear k := by rw [hwb]
                                      have y1 := hr6 k _ (ints_get (by omega))
                                      have y2 := har _ _ (ints_get hmq)
                                      have y3 := hr7 k _ (ints_get (by omega))
                                      have y4 := hbr k _ (ints_get (xs := m.bear) (by omega))
                                      rw [show 0 + k = 0 + (k : Int).toNat * 1 from by omega] at y1 y3
                                      rw [show ao + min k (q - 1) = ao + (min (k : Int) ((q : Int) - 1)).toNat * 1 from by omega] at y2
                                      rw [show bo + k = bo + (k : Int).toNat * 1 from by omega] at y4
                                      refine sk ?_
                                      refine sq ?_
                                      refine bl ?_
                                      refine sq ?_
                                      refine dr 27 [11, 122, 107, 77, 2] [0, 1, 2, 3, 4, 5, 6, 7, 8, 9, 10, 11, 12, 13, 14, 15, 16, 17, 18, 19, 20, 21, 22, 23, 24, 25, 26] ?_
                                      refine dt (hv := by exact sdFA) ?_
                                      refine dt (hv := by exact sdL) ?_
                                      refine dt (hv := by exact O) ?_
                                      refine dt (hv := by exact (sdX (z := 1))) ?_
                                      refine dt (hv := by exact (by first | exact sdLG | exact sdW)) ?_
                                      refine dt (hv := by exact sdFA) ?_
                                      refine dt (hv := by exact sdL) ?_
                                      iterate 2 (refine dt (hv := by exact O) ?_)
                                      refine dt (hv := by exact sdS) ?_
                                      refine dt (hv := by exact O) ?_
                                      refine dt (hv := by exact (sdX (z := 1))) ?_
                                      refine dt (hv := by exact (by first | exact sdLG | exact sdW)) ?_
                                      iterate 2 (refine dt (hv := by exact O) ?_)
                                      refine dgN (fun g161 => ?_) (fun g161 => ?_)
                                      · refine dp ?_
                                        iterate 10 (refine dp ?_)
                                        refine dt (hv := by exact O) ?_
                                        refine dn ?_
                                        refine cT ?_
                                        refine sq ?_
                                        refine rg ?_
                                        refine st (h := O) ?_
                                        refine nl ?_
                                        repeat refine J.dropF ?_
                                        first
                                          | exact rt ⟨rfl, rfl⟩
                                          | exact absurd rfl g62
                                          | exact absurd rfl g67
                                          | exact absurd rfl g128
                                          | exact absurd ewa g161
                                          | exact absurd ewb c5
                                          | (exfalso; omega)
                                      · refine dg (hv := by exact sdFA) ?_
                                        refine dg (hv := by exact sdL) ?_
                                        refine dg (hv := by exact O) ?_
                                        refine dg (hv := by exact (sdX (z := 1))) ?_
                                        refine dg (hv := by exact (by first | exact sdLG | exact sdW)) ?_
                                        refine dg (hv := by exact sdFA) ?_
                                        refine dg (hv := by exact sdL) ?_
                                        refine dg (hv := by exact O) ?_
                                        refine dg (hv := by exact (sdX (z := 1))) ?_
                                        refine dg (hv := by exact (by first | exact sdLG | exact sdW)) ?_
                                        refine dg (hv := by exact O) ?_
                                        refine dt (hv := by exact O) ?_
                                        refine dn ?_
                                        refine cN (fun c5 => ?_) (fun c5 => ?_)
                                        · refine sq ?_
                                          refine rg ?_
                                          refine st (h := O) ?_
                                          refine nl ?_
                                          repeat refine J.dropF ?_
                                          first
                                            | exact rt ⟨rfl, rfl⟩
                                            | exact absurd rfl g62
                                            | exact absurd rfl g67
                                            | exact absurd rfl g128
                                            | exact absurd ewa g161
                                            | exact absurd ewb c5
                                            | (exfalso; omega)
                                        · refine sk ?_
                                          refine bk ?_
                                          refine rg ?_
                                          refine st (h := O) ?_
                                          refine st (h := sdA) ?_
                                          refine st (h := O) ?_
                                          refine nl ?_
                                          refine bk1 (k + 1) (by exact ⟨rfl, trivial⟩) (by exact ⟨rfl, rfl, rfl, rfl, trivial⟩) (by exact ⟨rfl, rfl, rfl, rfl, rfl, rfl, rfl, rfl, rfl, rfl, trivial⟩) ?_ ?_
                                          · omega
                                          · omega
                                    · refine ex ?_
                                      refine sq ?_
                                      refine J.weak (L0 := []) (K0 := [(11, _), (122, _), (107, _), (77, _), (2, _)]) (by exact trivial) (by exact ⟨rfl, rfl, rfl, rfl, rfl, rfl, rfl, rfl, rfl, rfl, trivial⟩) ?_
                                      refine rg ?_
                                      refine cl (h := by exact fun ι hV hl => wakes_C _) ?_
                                      refine st (h := O) ?_
                                      refine nl ?_
                                      repeat refine J.dropF ?_
                                      first
                                        | exact rt ⟨rfl, rfl⟩
                                        | exact absurd rfl g62
                                        | exact absurd rfl g67
                                        | exact absurd rfl g128
                                        | exact absurd ewa g161
                                        | exact absurd ewb c5
                                        | (exfalso; omega)
                        · refine jal (hkp := by first | exact Kept.all | exact Kept.k0 | exact Kept.kY | exact Kept.kYY | exact Kept.kY3) ?_
                          refine dsl ?_
                          refine dclC (hkp := by first | exact Kept.all | exact Kept.k0 | exact Kept.kY | exact Kept.kYY | exact Kept.kY3) (h := by exact fun ι hV hl => mRead_C _ _ (tbsS m q) (Val.tbs (l := tbsS m q) hV rfl rfl (Nat.le_of_ble_eq_true rfl)) (tbsS_size hn hqn)) ?_
                          intro u3 Y3 hQ3 hv3 hp3 hN3
                          obtain ⟨w, hw, hwa, hwb⟩ := read_tbsS hgood hq1 hqn
                          rw [hw] at hQ3
                          obtain ⟨b6, c6, b7, c7, rfl, hR3⟩ := hQ3
                          obtain ⟨hA3, hB3⟩ := hR3 _ hN3.rows
                          have hga3 := hga2.le hN3.le
                          have hha3 := hha2.le hN3.le
                          have hwl : w.adv.length = m.adv.length := by rw [hwa]; simp
                          have hwl2 : w.bear.length = m.adv.length := by rw [hwb]; exact hbl
                          iterate 2 (refine dt (hv := by exact O) ?_)
                          refine dq (hv := by exact fun _ _ => O) ?_
                          refine dso (hkp := by first | exact Kept.all | exact Kept.k0 | exact Kept.kY | exact Kept.kYY | exact Kept.kY3) ?_
                          refine dq (hv := by exact fun _ _ => O) ?_
                          refine dn ?_
                          iterate 2 (refine sq ?_)
                          refine J.weak (L0 := [(1, _), (2, _), (7, _), (11, _), (12, _)]) (K0 := [(122, _), (11, _), (107, _), (77, _), (2, _)]) (by exact ⟨rfl, rfl, rfl, rfl, rfl, trivial⟩) (by exact ⟨rfl, rfl, rfl, rfl, rfl, rfl, rfl, rfl, rfl, rfl, trivial⟩) ?_
                          refine rg ?_
                          iterate 3 (refine st (h := O) ?_)
                          refine gN (fun g128 => ?_) (fun g128 => ?_)
                          · refine sp ?_
                            iterate 4 (refine sp ?_)
                            iterate 2 (refine st (h := O) ?_)
                            iterate 5 (refine sp ?_)
                            refine st (h := O) ?_
                            refine nl ?_
                            refine cT ?_
                            refine sq ?_
                            refine rg ?_
                            refine st (h := O) ?_
                            refine nl ?_
                            repeat refine J.dropF ?_
                            first
                              | exact rt ⟨rfl, rfl⟩
                              | exact absurd rfl g62
                              | exact absurd rfl g67
                              | exact absurd rfl g128
                              | exact absurd ewa g161
                              | exact absurd ewb c5
                              | (exfalso; omega)
                          · refine sg (h := sdFA) ?_
                            refine sg (h := sdL) ?_
                            iterate 3 (refine sg (h := O) ?_)
                            iterate 2 (refine st (h := O) ?_)
                            refine gN (fun g135 => ?_) (fun g135 => ?_)
                            · refine sp ?_
                              iterate 4 (refine sp ?_)
                              refine st (h := O) ?_
                              refine nl ?_
                              refine cT ?_
                              refine sq ?_
                              refine rg ?_
                              refine st (h := O) ?_
                              refine nl ?_
                              repeat refine J.dropF ?_
                              first
                                | exact rt ⟨rfl, rfl⟩
                                | exact absurd rfl g62
                                | exact absurd rfl g67
                                | exact absurd rfl g128
                                | exact absurd ewa g161
                                | exact absurd ewb c5
                                | (exfalso; omega)
                            · refine sg (h := sdFA) ?_
                              refine sg (h := sdL) ?_
                              iterate 3 (refine sg (h := O) ?_)
                              refine st (h := O) ?_
                              refine nl ?_
                              refine cN (fun c3 => ?_) (fun c3 => ?_)
                              · refine sq ?_
                                refine rg ?_
                                refine st (h := O) ?_
                                refine nl ?_
                                repeat refine J.dropF ?_
                                first
                                  | exact rt ⟨rfl, rfl⟩
                                  | exact absurd rfl g62
                                  | exact absurd rfl g67
                                  | exact absurd rfl g128
                                  | exact absurd ewa g161
                                  | exact absurd ewb c5
                                  | (exfalso; omega)
                              · refine sk ?_
                                iterate 2 (refine sq ?_)
                                refine J.weak (L0 := [(1, _), (2, _), (7, _), (11, _)]) (K0 := [(122, _), (11, _), (107, _), (77, _), (2, _)]) (by exact ⟨rfl, rfl, rfl, rfl, trivial⟩) (by exact ⟨rfl, rfl, rfl, rfl, rfl, rfl, rfl, rfl, rfl, rfl, trivial⟩) ?_
                                refine rg ?_
                                refine st (h := O) ?_
                                refine nl ?_
                                refine bl ?_
                                refine J.loop1 (α := Nat) (fun k => k ≤ m.adv.length) (fun k => [(13, .int .i64 k)]) [(1, _), (2, _), (7, _), (11, _)] (fun k => []) [(122, _), (11, _), (107, _), (77, _), (2, _)] (fun k => m.adv.length - k) (0) (by exact ⟨rfl, trivial⟩) (by exact ⟨rfl, rfl, rfl, rfl, trivial⟩) (by exact ⟨rfl, rfl, rfl, rfl, rfl, rfl, rfl, rfl, rfl, rfl, trivial⟩) ?_ ?_
                                · exact Nat.zero_le _
                                · intro k L1 K1 e1 e2 hI
                                  dsimp only [apV, apR, List.cons_append, List.nil_append] at e1 e2
                                  subst e1 e2
                                  iterate 2 (refine sq ?_)
                                  refine rg ?_
                                  iterate 3 (refine st (h := O) ?_)
                                  refine nl ?_
                                  refine cD (fun c4 => ?_) (fun c4 => ?_)
                                  · have hkl : k < m.adv.length := by omega
                                    have hmq : min k (q - 1) < m.adv.length := by omega
                                    obtain ⟨x6, o6, e6, hr6⟩ := hA3.rd (by omega)
                                    simp only [Option.some.injEq, Addr.mk.injEq] at e6
                                    obtain ⟨rfl, rfl, _⟩ := e6
                                    obtain ⟨x7, o7, e7, hr7⟩ := hB3.rd (by omega)
                                    simp only [Option.some.injEq, Addr.mk.injEq] at e7
                                    obtain ⟨rfl, rfl, _⟩ := e7
                                    obtain ⟨ab, ao, rfl, har⟩ := hga3.rd (by omega)
                                    obtain ⟨bb, bo, rfl, hbr⟩ := hha3.rd (by omega)
                                    have ewa : ints w.adv k = ints m.adv (min k (q - 1)) := by rw [hwa]; exact ints_mr hkl
                                    have ewb : ints w.bear k = ints m.bear k := by rw [hwb]
                                    have y1 := hr6 k _ (ints_get (by omega))
                                    have y2 := har _ _ (ints_get hmq)
                                    have y3 := hr7 k _ (ints_get (by omega))
                                    have y4 := hbr k _ (ints_get (xs := m.bear) (by omega))
                                    rw [show 0 + k = 0 + (k : Int).toNat * 1 from by omega] at y1 y3
                                    rw [show ao + min k (q - 1) = ao + (min (k : Int) ((q : Int) - 1)).toNat * 1 from by omega] at y2
                                    rw [show bo + k = bo + (k : Int).toNat * 1 from by omega] at y4
                                    refine sk ?_
                                    refine sq ?_
                                    refine bl ?_
                                    refine sq ?_
                                    refine dr 27 [122, 11, 107, 77, 2] [0, 1, 2, 3, 4, 5, 6, 7, 8, 9, 10, 11, 12, 13, 14, 15, 16, 17, 18, 19, 20, 21, 22, 23, 24, 25, 26] ?_
                                    refine dt (hv := by exact sdFA) ?_
                                    refine dt (hv := by exact sdL) ?_
                                    refine dt (hv := by exact O) ?_
                                    refine dt (hv := by exact (sdX (z := 1))) ?_
                                    refine dt (hv := by exact (by first | exact sdLG | exact sdW)) ?_
                                    refine dt (hv := by exact sdFA) ?_
                                    refine dt (hv := by exact sdL) ?_
                                    iterate 2 (refine dt (hv := by exact O) ?_)
                                    refine dt (hv := by exact sdS) ?_
                                    refine dt (hv := by exact O) ?_
                                    refine dt (hv := by exact (sdX (z := 1))) ?_
                                    refine dt (hv := by exact (by first | exact sdLG | exact sdW)) ?_
                                    iterate 2 (refine dt (hv := by exact O) ?_)
                                    refine dgN (fun g161 => ?_) (fun g161 => ?_)
                                    · refine dp ?_
                                      iterate 10 (refine dp ?_)
                                      refine dt (hv := by exact O) ?_
                                      refine dn ?_
                                      refine cT ?_
                                      refine sq ?_
                                      refine rg ?_
                                      refine st (h := O) ?_
                                      refine nl ?_
                                      repeat refine J.dropF ?_
                                      first
                                        | exact rt ⟨rfl, rfl⟩
                                        | exact absurd rfl g62
                                        | exact absurd rfl g67
                                        | exact absurd rfl g128
                                        | exact absurd ewa g161
                                        | exact absurd ewb c5
                                        | (exfalso; omega)
                                    · refine dg (hv := by exact sdFA) ?_
                                      refine dg (hv := by exact sdL) ?_
                                      refine dg (hv := by exact O) ?_
                                      refine dg (hv := by exact (sdX (z := 1))) ?_
                                      refine dg (hv := by exact (by first | exact sdLG | exact sdW)) ?_
                                      refine dg (hv := by exact sdFA) ?_
                                      refine dg (hv := by exact sdL) ?_
                                      refine dg (hv := by exact O) ?_
                                      refine dg (hv := by exact (sdX (z := 1))) ?_
                                      refine dg (hv := by exact (by first | exact sdLG | exact sdW)) ?_
                                      refine dg (hv := by exact O) ?_
                                      refine dt (hv := by exact O) ?_
                                      refine dn ?_
                                      refine cN (fun c5 => ?_) (fun c5 => ?_)
                                      · refine sq ?_
                                        refine rg ?_
                                        refine st (h := O) ?_
                                        refine nl ?_
                                        repeat refine J.dropF ?_
                                        first
                                          | exact rt ⟨rfl, rfl⟩
                                          | exact absurd rfl g62
                                          | exact absurd rfl g67
                                          | exact absurd rfl g128
                                          | exact absurd ewa g161
                                          | exact absurd ewb c5
                                          | (exfalso; omega)
                                      · refine sk ?_
                                        refine bk ?_
                                        refine rg ?_
                                        refine st (h := O) ?_
                                        refine st (h := sdA) ?_
                                        refine st (h := O) ?_
                                        refine nl ?_
                                        refine bk1 (k + 1) (by exact ⟨rfl, trivial⟩) (by exact ⟨rfl, rfl, rfl, rfl, trivial⟩) (by exact ⟨rfl, rfl, rfl, rfl, rfl, rfl, rfl, rfl, rfl, rfl, trivial⟩) ?_ ?_
                                        · omega
                                        · omega
                                  · refine ex ?_
                                    refine sq ?_
                                    refine J.weak (L0 := []) (K0 := [(122, _), (11, _), (107, _), (77, _), (2, _)]) (by exact trivial) (by exact ⟨rfl, rfl, rfl, rfl, rfl, rfl, rfl, rfl, rfl, rfl, trivial⟩) ?_
                                    refine rg ?_
                                    refine cl (h := by exact fun ι hV hl => wakes_C _) ?_
                                    refine st (h := O) ?_
                                    refine nl ?_
                                    repeat refine J.dropF ?_
                                    first
                                      | exact rt ⟨rfl, rfl⟩
                                      | exact absurd rfl g62
                                      | exact absurd rfl g67
                                      | exact absurd rfl g128
                                      | exact absurd ewa g161
                                      | exact absurd ewb c5
                                      | (exfalso; omega)
theorem law7_K {F : Mem} {cs : List Value} {p} {x : Int} (h : kMet.R F cs p) (hx : i64ok x) : C0 Try.prog 7 [.agg ⟨cs⟩, .int .i64 x] F (.bool true) := by
  obtain ⟨m, ga, ha, gc, hc, e, h1, h2, _⟩ := Met.ofK h
  rw [e]
  exact law7_C F m ga ha gc hc x h1 h2 hx

end Go.Proofs.Ytfcckfiipbdnkaa.Am
namespace Go.Proofs.Ytfcckfiipbdnkaa.metricsShort
open Go.ChangeShapes Go.WideShapes Go.ChangeAt Go.RowKit
open Go.ChangeMaps (open_string shut_string)
set_option linter.unusedVariables false
theorem own : ownKnob Try.prog.godebug = none := by kernel_rfl
theorem laidOut : laidOutB Try.prog = true := by kernel_rfl
set_option maxRecDepth 100000 in
theorem lifted (os : Os) (started : os.Started) (H : Type) (enc : TypeId × Value → H) :
    ReturnsInHanded {} Try.checked os 7 .any (Rows.metricsShortSpec.pre6 enc Try.prog Try.f7 Rows.metricsShortRow.domain false) (Rows.metricsShortSpec.post enc Try.prog Try.f7 false true false false) := by
  refine returnsInHanded_of_change_sized (C := Try.checked) own started (by kernel_rfl) Try.func7
    (ChangeSpec.witness6 (enc := enc) (C := Try.checked) false ⟨#[], #[.agg #[.int .i64 0, .int .i64 0, .int .i64 0, .int .i64 0, .int .i64 0, .int .i64 0, .int .i64 0, .int .i64 0, .bool false, .slice none 0 0, .slice none 0 0], .int .i64 0], []⟩ 8 (by kernel_rfl) (by kernel_rfl) (by kernel_rfl) (by kernel_rfl)) ?_
  intro W base args ds gs before hval0 hW hcnd hsz0 _
  have hsz : (DataW.weightsEach Try.prog (Try.f7.params.toList ++ Rows.metricsShortSpec.plain.varTypes Try.prog) (ds ++ gs)).all (· ≤ reachBytes) = true := hsz0
  have hval : ∀ (j : Nat) t v, Try.f7.params[j]? = some t → args[j]? = some v → Value.okWide Try.prog W .any base t v := hval0
  have hW' := hW
  obtain ⟨p, q, hA0, hV, rfl, hfz, hnd⟩ := hW
  have hA : DataW.TrodAll enc Try.prog W 0 (fun _ => true) true Try.f7.params.toList args.toList ds p := hA0
  rw [Try.params7] at hA hval hsz
  obtain ⟨v0, vs0, d0, ds0, p0, q0, hargs, rfl, rfl, h0, r0⟩ := trodAll_cons hA
  obtain ⟨v1, vs1, d1, ds1, p1, q1, rfl, rfl, rfl, h1, r1⟩ := trodAll_cons r0
  obtain ⟨rfl, rfl, rfl⟩ := trodAll_nil r1
  obtain rfl : args = #[v0, v1] := by cases args; simp_all
  obtain ⟨rfl, rfl⟩ := trodVars_none hV
  have k0 := h0
  have lt0 : ∀ x ∈ p0, x.block < W.heap.size := by obtain ⟨m, hm⟩ := k0; exact DataW.trod_lt m _ _ _ hm
  obtain ⟨cs0, rfl, hcs0⟩ := okWide_struct Try.underlying28 (hval 0 28 v0 rfl rfl)
  obtain ⟨x0, f0, g0⟩ := Am.opened (enc := enc) (W := W) Am.opMet h0 (Am.weigh hsz (j := 0) (t := 28) rfl rfl)
  have t0 : Am.eV (.agg cs0) = .agg ⟨cs0.toList.map Am.e1⟩ := rfl
  obtain ⟨x1, rfl, rfl, rfl, w1⟩ := open_int Try.underlying3 (hval 1 3 v1 rfl rfl) h1
  have t1 : Am.eV (.int .i64 x1) = .int .i64 x1 := rfl
  have hrun := Am.C0.run_e (P := Try.prog) (f := 7) (args := [.agg cs0, .int .i64 x1]) (W := W) (r := .bool true) (by
    simp only [List.map_cons, List.map_nil, t0, t1]
    exact Am.law7_K f0 (Am.wf_i64 w1)) (by intro v hv vs e; subst e; simp at hv) rfl
  clear hval0 hsz0 hsz hA0
  refine Calls.mono hrun fun e W' ⟨he, bel⟩ => ?_
  subst he
  exact ⟨_, rfl, _, _, _, [], _, [], hW', trodAll_mk1 (shut_bool Try.underlying4 _), (trodAll_cons_mk (Below.trod laidOut (by kernel_rfl) (of_decide_eq_true (by kernel_rfl)) k0 bel lt0) (trodAll_cons_mk (shut_int Try.underlying3 w1) trodAll_mk0)), rfl, bel.frame _, fun h => by cases h⟩
theorem over : Rows.metricsShortRow.holds Try.pinned (OpenSpec.ofChange Rows.metricsShortSpec) :=
  OpenClaim.holds_of_wide 7 Try.f7 rfl rfl rfl rfl rfl rfl rfl ⟨rfl, rfl, rfl, rfl, rfl⟩ rfl rfl rfl rfl rfl (by kernel_rfl) Try.func7 (by kernel_rfl)
    (of_decide_eq_true (by kernel_rfl)) (by unfold Func.isWrapper; first | (rw [if_pos (by decide +kernel)]; kernel_rfl) | (rw [if_neg (by decide +kernel)]; exact ⟨rfl, rfl⟩))
    (fun os started H enc _ => lifted os started H enc)
theorem proved : Rows.MetricsShortSaid := over
#print axioms proved
end Go.Proofs.Ytfcckfiipbdnkaa.metricsShort
namespace Go.Proofs.Ytfcckfiipbdnkaa
/-- The row, under a short name, for the claim. -/
theorem metricsShort_holds : Rows.MetricsShortSaid := metricsShort.proved
end Go.Proofs.Ytfcckfiipbdnkaa
