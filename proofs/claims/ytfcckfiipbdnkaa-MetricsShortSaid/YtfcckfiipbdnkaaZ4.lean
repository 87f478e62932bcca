/- Rules for walking Go functions, and contracts proved by them (M6, M7, M8, N8, M9, M10, N9, M11, M12, M13, N10, M14, N11, M15, M16, N12, M17, M18). -/
import Derived.Test.YtfcckfiipbdnkaaZ3
import Derived.ChangeKeysEq
import Derived.OpenShut
namespace Go.Proofs.Ytfcckfiipbdnkaa.Am
set_option linter.unusedSimpArgs false
set_option linter.unusedVariables false
set_option maxRecDepth 100000
set_option maxHeartbeats 4000000
open Go Go.RowKit
def rdCs (u a d g : Int) (B : Nat → Int) (lo : Bool) (ad be : Value) (n h : Int) : List Value := [.int .i64 u, .int .i64 a, .int .i64 d, .int .i64 g] ++ (gI B 4 ++ [.bool lo, ad, be, .int .i64 n, .int .i64 h])
def rdRow (el : TypeId) (u a d g : Int) (B : Nat → Int) (lo : Bool) (ad be : Value) (n h : Int) : Row := { elem := el, cs := rdCs u a d g B lo ad be n h, room := 13, fz := false, flat := false }
theorem mk2_C (F : Mem) (s : ByteArray) (k : Nat) (h : k + 2 ≤ s.size) (hs : s.size ≤ 140737488355328) : C0 Try.prog 51 [.string s, .int .i64 k] F (.int .i64 (two s k)) :=
  mTwo_C F s k (by omega) (by omega) (by omega)
theorem mks_C (F : Mem) (s : ByteArray) (k : Nat) (h : k + 2 ≤ s.size) (hs : s.size ≤ 140737488355328) : C0 Try.prog 52 [.string s, .int .i64 k] F (.int .i64 (sg2 (two s k))) :=
  mSg_C F s k (by omega) (by omega) (by omega)
theorem maxp_CA (F : Mem) (s : ByteArray) (u a d g n h : Int) (B : Nat → Int) (lo : Bool) (hs : 6 ≤ s.size) (hb : s.size ≤ 140737488355328) : CA Try.prog [500001] [500001] 41 [.pointer (some ⟨500001, 0, some 0⟩), .string s] F [(500001, rdRow 53 u a d g B lo (.slice none 0 0) (.slice none 0 0) n h)] (fun v Y K' => v = .bool (decide (okMp s)) ∧ Y = [] ∧ K' = [(500001, rdRow 53 u a d g B lo (.slice none 0 0) (.slice none 0 0) (two s 4) h)]) := by
  refine CA.go hT Try.func41 Try.ntmps41 ?_
  refine sq ?_
  refine rg ?_
  refine st (h := O) ?_
  refine nl ?_
  refine sq ?_
  refine rg ?_
  iterate 2 (refine st (h := O) ?_)
  refine cl (h := by exact fun ι hV hl => mk2_C _ s 4 (by omega) hb) ?_
  refine st (h := O) ?_
  refine st (h := sdFA) ?_
  refine so ?_
  refine nl ?_
  refine sq ?_
  refine rg ?_
  refine st (h := O) ?_
  refine st (h := sdCut 0 4) ?_
  iterate 2 (refine st (h := O) ?_)
  refine gB (fun g13 => ?_) (fun g13 => ?_)
  · have e13 : s.extract 0 4 = vOne := bq_t g13
    iterate 3 (refine sp ?_)
    iterate 2 (refine st (h := O) ?_)
    iterate 2 (refine sg (h := O) ?_)
    refine sg (h := sdFA) ?_
    refine sg (h := sdL) ?_
    refine sg (h := O) ?_
    iterate 2 (refine st (h := O) ?_)
    refine gD (fun g25 => ?_) (fun g25 => ?_)
    · refine sg (h := O) ?_
      refine sg (h := O) ?_
      refine sg (h := sdFA) ?_
      refine sg (h := sdL) ?_
      refine sg (h := O) ?_
      iterate 2 (refine st (h := O) ?_)
      refine nl ?_
      refine rtA [(500001, _)] ⟨congrArg Value.bool ?_, rfl, rfl⟩
      first
        | (rw [eq_comm, decide_eq_false_iff_not]; rintro ⟨e1, e2, e3⟩; first | omega | (rcases e1 with e1 | e1; exact e18 e1; exact e13 e1))
        | (rw [decide_eq_decide]; exact ⟨fun h => ⟨by first | exact .inl e18 | exact .inr e13, by omega, by omega⟩, fun h => by have := h.2; omega⟩)
    · refine sp ?_
      iterate 4 (refine sp ?_)
      iterate 2 (refine st (h := O) ?_)
      refine nl ?_
      refine rtA [(500001, _)] ⟨congrArg Value.bool ?_, rfl, rfl⟩
      first
        | (rw [eq_comm, decide_eq_false_iff_not]; rintro ⟨e1, e2, e3⟩; first | omega | (rcases e1 with e1 | e1; exact e18 e1; exact e13 e1))
        | (rw [decide_eq_decide]; exact ⟨fun h => ⟨by first | exact .inl e18 | exact .inr e13, by omega, by omega⟩, fun h => by have := h.2; omega⟩)
  · have e13 : s.extract 0 4 ≠ vOne := bq_f g13
    refine sg (h := O) ?_
    refine sg (h := sdCut 0 4) ?_
    refine sg (h := O) ?_
    iterate 2 (refine st (h := O) ?_)
    refine gB (fun g18 => ?_) (fun g18 => ?_)
    · have e18 : s.extract 0 4 = vHalf := bq_t g18
      iterate 2 (refine sg (h := O) ?_)
      refine sg (h := sdFA) ?_
      refine sg (h := sdL) ?_
      refine sg (h := O) ?_
      iterate 2 (refine st (h := O) ?_)
      refine gD (fun g25 => ?_) (fun g25 => ?_)
      · refine sg (h := O) ?_
        refine sg (h := O) ?_
        refine sg (h := sdFA) ?_
        refine sg (h := sdL) ?_
        refine sg (h := O) ?_
        iterate 2 (refine st (h := O) ?_)
        refine nl ?_
        refine rtA [(500001, _)] ⟨congrArg Value.bool ?_, rfl, rfl⟩
        first
          | (rw [eq_comm, decide_eq_false_iff_not]; rintro ⟨e1, e2, e3⟩; first | omega | (rcases e1 with e1 | e1; exact e18 e1; exact e13 e1))
          | (rw [decide_eq_decide]; exact ⟨fun h => ⟨by first | exact .inl e18 | exact .inr e13, by omega, by omega⟩, fun h => by have := h.2; omega⟩)
      · refine sp ?_
        iterate 4 (refine sp ?_)
        iterate 2 (refine st (h := O) ?_)
        refine nl ?_
        refine rtA [(500001, _)] ⟨congrArg Value.bool ?_, rfl, rfl⟩
        first
          | (rw [eq_comm, decide_eq_false_iff_not]; rintro ⟨e1, e2, e3⟩; first | omega | (rcases e1 with e1 | e1; exact e18 e1; exact e13 e1))
          | (rw [decide_eq_decide]; exact ⟨fun h => ⟨by first | exact .inl e18 | exact .inr e13, by omega, by omega⟩, fun h => by have := h.2; omega⟩)
    · have e18 : s.extract 0 4 ≠ vHalf := bq_f g18
      iterate 5 (refine sp ?_)
      iterate 2 (refine st (h := O) ?_)
      iterate 5 (refine sp ?_)
      iterate 2 (refine st (h := O) ?_)
      refine nl ?_
      refine rtA [(500001, _)] ⟨congrArg Value.bool ?_, rfl, rfl⟩
      first
        | (rw [eq_comm, decide_eq_false_iff_not]; rintro ⟨e1, e2, e3⟩; first | omega | (rcases e1 with e1 | e1; exact e18 e1; exact e13 e1))
        | (rw [decide_eq_decide]; exact ⟨fun h => ⟨by first | exact .inl e18 | exact .inr e13, by omega, by omega⟩, fun h => by have := h.2; omega⟩)
theorem head_CA (F : Mem) (s : ByteArray) (u a d g n h : Int) (B : Nat → Int) (lo : Bool) (hs : 54 ≤ s.size) (hb : s.size ≤ 140737488355328) : CA Try.prog [500001] [500001] 42 [.pointer (some ⟨500001, 0, some 0⟩), .string s] F [(500001, rdRow 53 u a d g B lo (.slice none 0 0) (.slice none 0 0) n h)] (fun v Y K' => v = .bool (decide (okHd s)) ∧ Y = [] ∧ ∃ B', (∀ j < 4, B' j = sg2 (two s (36 + 2 * j))) ∧ K' = [(500001, rdRow 53 (two s 18) a d g B' (decide (two s 50 = 1)) (.slice none 0 0) (.slice none 0 0) n h)]) := by
  have w1 := two_bd s 18
  have w2 := two_bd s 50
  have w3 := two_bd s 52
  refine CA.go hT Try.func42 Try.ntmps42 ?_
  refine sq ?_
  refine rg ?_
  refine st (h := O) ?_
  refine nl ?_
  refine sq ?_
  refine rg ?_
  iterate 3 (refine st (h := O) ?_)
  refine cl (h := by exact fun ι hV hl => mk2_C _ s 18 (by omega) hb) ?_
  refine st (h := O) ?_
  refine cl (h := by exact fun ι hV hl => mk2_C _ s 50 (by omega) hb) ?_
  iterate 2 (refine st (h := O) ?_)
  iterate 2 (refine st (h := sdFA) ?_)
  refine so ?_
  refine st (h := O) ?_
  iterate 2 (refine st (h := sdFA) ?_)
  refine so ?_
  refine nl ?_
  iterate 2 (refine sq ?_)
  refine rg ?_
  refine st (h := O) ?_
  refine nl ?_
  refine bl ?_
  refine J.loop2 (α := Nat) (β := Nat → Int) (fun k B' => k ≤ 4 ∧ ∀ j < k, B' j = sg2 (two s (36 + 2 * j))) (fun k B' => [(19, .int .i64 k)]) [(0, _), (1, _)] (fun k B' => [(500001, rdRow 53 (two s 18) a d g B' (decide (two s 50 = 1)) (.slice none 0 0) (.slice none 0 0) n h)]) [] (fun k B' => 4 - k) (0) (B) (by exact ⟨rfl, trivial⟩) (by exact ⟨rfl, rfl, trivial⟩) (by exact ⟨rfl, rfl, trivial⟩) ?_ ?_
  · exact ⟨Nat.zero_le _, fun j hj => absurd hj (Nat.not_lt_zero _)⟩
  · intro k B' L1 K1 e1 e2 hI
    dsimp only [apV, apR, List.cons_append, List.nil_append] at e1 e2
    subst e1 e2
    obtain ⟨hk, hB⟩ := hI
    refine sq ?_
    refine rg ?_
    refine st (h := O) ?_
    refine nl ?_
    refine sq ?_
    refine cD (fun c0 => ?_) (fun c0 => ?_)
    · have hk4 : k < 4 := by omega
      refine sk ?_
      refine sq ?_
      refine bl ?_
      refine sq ?_
      refine rg ?_
      iterate 2 (refine st (h := O) ?_)
      refine nl ?_
      refine dr 11 [500001] [0, 1, 2, 3, 4, 5, 2007, 2008, 2009, 1006, 10, 1011] ?_
      iterate 4 (refine dt (hv := by exact O) ?_)
      refine dt (hv := by exact sdM) ?_
      refine dt (hv := by exact sdA) ?_
      refine dq (hv := by exact fun _ _ => O) ?_
      iterate 2 (refine dq (hv := by exact fun _ _ => sdFA) ?_)
      refine dcl (hkp := by first | exact Kept.all | exact Kept.k0 | exact Kept.kY | exact Kept.kYY | exact Kept.kY3) (h := by exact fun ι hV hl => (mks_C _ s (36 + 2 * k) (by omega) hb).ofR (arg2 rfl (congrArg (Value.int .i64) (show (36 + 2 * (k : Int)) = ((36 + 2 * k : Nat) : Int) from by omega)))) ?_
      refine dt (hv := by exact (sdXA (z := 1))) ?_
      refine dsoX (k := k) (n := 4) (B := B') [_, _, _, _] [_, _, _, _, _] ?_
      refine dn ?_
      refine bk ?_
      refine rg ?_
      refine st (h := sdA) ?_
      refine st (h := O) ?_
      refine nl ?_
      refine bk2 (k + 1) (setI B' k _) (by exact ⟨rfl, trivial⟩) (by exact ⟨rfl, rfl, trivial⟩) (by exact ⟨rfl, rfl, trivial⟩) ?_ ?_
      · omega
      · refine ⟨by omega, fun j hj => ?_⟩
        unfold setI
        split
        · rename_i e
          subst e
          rfl
        · exact hB j (by omega)
    · obtain rfl : k = 4 := by omega
      refine ex ?_
      refine sq ?_
      refine rg ?_
      refine st (h := O) ?_
      refine st (h := sdCut 0 4) ?_
      iterate 2 (refine st (h := O) ?_)
      refine gB (fun g37 => ?_) (fun g37 => ?_)
      · have e37 : s.extract 0 4 = vOne := bq_t g37
        refine sg (h := O) ?_
        refine sg (h := sdCut 12 16) ?_
        refine sg (h := O) ?_
        iterate 2 (refine st (h := O) ?_)
        refine gB (fun g42 => ?_) (fun g42 => ?_)
        · have e42 : s.extract 12 16 = vMag := bq_t g42
          iterate 2 (refine sg (h := O) ?_)
          iterate 2 (refine sg (h := sdFA) ?_)
          refine sg (h := sdL) ?_
          refine sg (h := O) ?_
          iterate 2 (refine st (h := O) ?_)
          refine gD (fun g50 => ?_) (fun g50 => ?_)
          · refine sg (h := O) ?_
            refine sg (h := O) ?_
            iterate 2 (refine sg (h := sdFA) ?_)
            refine sg (h := sdL) ?_
            refine sg (h := O) ?_
            iterate 2 (refine st (h := O) ?_)
            refine gD (fun g58 => ?_) (fun g58 => ?_)
            · refine sg (h := O) ?_
              refine clg (h := by exact fun ι hV hl => mk2_C _ s 50 (by omega) hb) ?_
              refine sg (h := O) ?_
              iterate 2 (refine st (h := O) ?_)
              refine gD (fun g63 => ?_) (fun g63 => ?_)
              · refine sg (h := O) ?_
                refine clg (h := by exact fun ι hV hl => mk2_C _ s 52 (by omega) hb) ?_
                refine sg (h := O) ?_
                iterate 2 (refine st (h := O) ?_)
                refine nl ?_
                refine rtA [(500001, _)] ⟨congrArg Value.bool ?_, rfl, B', hB, rfl⟩
                first
                  | (rw [eq_comm, decide_eq_false_iff_not]; rintro ⟨e1, e2, e3, e4, e5, e6⟩; first | exact e37 e1 | exact e42 e2 | omega)
                  | (rw [decide_eq_decide]; exact ⟨fun h => ⟨e37, e42, by omega, by omega, by omega, by omega⟩, fun h => by have := h.2.2; omega⟩)
              · refine sp ?_
                iterate 2 (refine sp ?_)
                iterate 2 (refine st (h := O) ?_)
                refine nl ?_
                refine rtA [(500001, _)] ⟨congrArg Value.bool ?_, rfl, B', hB, rfl⟩
                first
                  | (rw [eq_comm, decide_eq_false_iff_not]; rintro ⟨e1, e2, e3, e4, e5, e6⟩; first | exact e37 e1 | exact e42 e2 | omega)
                  | (rw [decide_eq_decide]; exact ⟨fun h => ⟨e37, e42, by omega, by omega, by omega, by omega⟩, fun h => by have := h.2.2; omega⟩)
            · refine sp ?_
              iterate 2 (refine sp ?_)
              iterate 2 (refine st (h := O) ?_)
              iterate 3 (refine sp ?_)
              iterate 2 (refine st (h := O) ?_)
              refine nl ?_
              refine rtA [(500001, _)] ⟨congrArg Value.bool ?_, rfl, B', hB, rfl⟩
              first
                | (rw [eq_comm, decide_eq_false_iff_not]; rintro ⟨e1, e2, e3, e4, e5, e6⟩; first | exact e37 e1 | exact e42 e2 | omega)
                | (rw [decide_eq_decide]; exact ⟨fun h => ⟨e37, e42, by omega, by omega, by omega, by omega⟩, fun h => by have := h.2.2; omega⟩)
          · refine sp ?_
            iterate 5 (refine sp ?_)
            iterate 2 (refine st (h := O) ?_)
            iterate 3 (refine sp ?_)
            iterate 2 (refine st (h := O) ?_)
            iterate 3 (refine sp ?_)
            iterate 2 (refine st (h := O) ?_)
            refine nl ?_
            refine rtA [(500001, _)] ⟨congrArg Value.bool ?_, rfl, B', hB, rfl⟩
            first
              | (rw [eq_comm, decide_eq_false_iff_not]; rintro ⟨e1, e2, e3, e4, e5, e6⟩; first | exact e37 e1 | exact e42 e2 | omega)
              | (rw [decide_eq_decide]; exact ⟨fun h => ⟨e37, e42, by omega, by omega, by omega, by omega⟩, fun h => by have := h.2.2; omega⟩)
        · have e42 : s.extract 12 16 ≠ vMag := bq_f g42
          iterate 6 (refine sp ?_)
          iterate 2 (refine st (h := O) ?_)
          iterate 6 (refine sp ?_)
          iterate 2 (refine st (h := O) ?_)
          iterate 3 (refine sp ?_)
          iterate 2 (refine st (h := O) ?_)
          iterate 3 (refine sp ?_)
          iterate 2 (refine st (h := O) ?_)
          refine nl ?_
          refine rtA [(500001, _)] ⟨congrArg Value.bool ?_, rfl, B', hB, rfl⟩
          first
            | (rw [eq_comm, decide_eq_false_iff_not]; rintro ⟨e1, e2, e3, e4, e5, e6⟩; first | exact e37 e1 | exact e42 e2 | omega)
            | (rw [decide_eq_decide]; exact ⟨fun h => ⟨e37, e42, by omega, by omega, by omega, by omega⟩, fun h => by have := h.2.2; omega⟩)
      · have e37 : s.extract 0 4 ≠ vOne := bq_f g37
        iterate 3 (refine sp ?_)
        iterate 2 (refine st (h := O) ?_)
        iterate 6 (refine sp ?_)
        iterate 2 (refine st (h := O) ?_)
        iterate 6 (refine sp ?_)
        iterate 2 (refine st (h := O) ?_)
        iterate 3 (refine sp ?_)
        iterate 2 (refine st (h := O) ?_)
        iterate 3 (refine sp ?_)
        iterate 2 (refine st (h := O) ?_)
        refine nl ?_
        refine rtA [(500001, _)] ⟨congrArg Value.bool ?_, rfl, B', hB, rfl⟩
        first
          | (rw [eq_comm, decide_eq_false_iff_not]; rintro ⟨e1, e2, e3, e4, e5, e6⟩; first | exact e37 e1 | exact e42 e2 | omega)
          | (rw [decide_eq_decide]; exact ⟨fun h => ⟨e37, e42, by omega, by omega, by omega, by omega⟩, fun h => by have := h.2.2; omega⟩)
theorem hhea_CA (F : Mem) (s : ByteArray) (u a d g n h : Int) (B : Nat → Int) (lo : Bool) (hs : 36 ≤ s.size) (hb : s.size ≤ 140737488355328) : CA Try.prog [500001] [500001] 43 [.pointer (some ⟨500001, 0, some 0⟩), .string s] F [(500001, rdRow 53 u a d g B lo (.slice none 0 0) (.slice none 0 0) n h)] (fun v Y K' => v = .bool (decide (okHh s n)) ∧ Y = [] ∧ K' = [(500001, rdRow 53 u (sg2 (two s 4)) (sg2 (two s 6)) (sg2 (two s 8)) B lo (.slice none 0 0) (.slice none 0 0) n (two s 34))]) := by
  have w1 := two_bd s 34
  have w3 := two_bd s 32
  refine CA.go hT Try.func43 Try.ntmps43 ?_
  refine sq ?_
  refine rg ?_
  refine st (h := O) ?_
  refine nl ?_
  refine sq ?_
  refine rg ?_
  iterate 4 (refine st (h := O) ?_)
  refine cl (h := by exact fun ι hV hl => mks_C _ s 4 (by omega) hb) ?_
  refine st (h := O) ?_
  refine cl (h := by exact fun ι hV hl => mks_C _ s 6 (by omega) hb) ?_
  refine st (h := O) ?_
  refine cl (h := by exact fun ι hV hl => mks_C _ s 8 (by omega) hb) ?_
  refine st (h := O) ?_
  iterate 2 (refine st (h := sdFA) ?_)
  refine so ?_
  refine st (h := O) ?_
  iterate 2 (refine st (h := sdFA) ?_)
  refine so ?_
  refine st (h := O) ?_
  iterate 2 (refine st (h := sdFA) ?_)
  refine so ?_
  refine nl ?_
  refine sq ?_
  refine rg ?_
  iterate 2 (refine st (h := O) ?_)
  refine cl (h := by exact fun ι hV hl => mk2_C _ s 34 (by omega) hb) ?_
  refine st (h := O) ?_
  refine st (h := sdFA) ?_
  refine so ?_
  refine nl ?_
  refine sq ?_
  refine dr 27 [500001] [0, 1, 2, 3, 4, 1005, 6, 7, 8, 9, 10, 11, 12, 13, 14, 15, 16, 17, 18, 19, 20, 21, 22, 23, 24, 25, 26] ?_
  refine dt (hv := by exact O) ?_
  refine dt (hv := by exact sdCut 0 4) ?_
  iterate 2 (refine dt (hv := by exact O) ?_)
  refine dgB (fun g31 => ?_) (fun g31 => ?_)
  · have e31 : s.extract 0 4 = vOne := bq_t g31
    refine dg (hv := by exact O) ?_
    refine dclg (hkp := by first | exact Kept.all | exact Kept.k0 | exact Kept.kY | exact Kept.kYY | exact Kept.kY3) (h := by exact fun ι hV hl => mk2_C _ s 32 (by omega) hb) ?_
    refine dg (hv := by exact O) ?_
    iterate 2 (refine dt (hv := by exact O) ?_)
    refine dgD (fun g36 => ?_) (fun g36 => ?_)
    · refine dg (hv := by exact O) ?_
      refine dg (hv := by exact O) ?_
      refine dg (hv := by exact sdFA) ?_
      refine dg (hv := by exact sdL) ?_
      refine dg (hv := by exact O) ?_
      iterate 2 (refine dt (hv := by exact O) ?_)
      refine dgD (fun g43 => ?_) (fun g43 => ?_)
      · refine dg (hv := by exact O) ?_
        refine dg (hv := by exact O) ?_
        refine dg (hv := by exact sdFA) ?_
        refine dg (hv := by exact sdL) ?_
        iterate 2 (refine dg (hv := by exact O) ?_)
        refine dg (hv := by exact sdFA) ?_
        refine dg (hv := by exact sdL) ?_
        refine dg (hv := by exact O) ?_
        iterate 2 (refine dt (hv := by exact O) ?_)
        refine dn ?_
        refine rtA [(500001, _)] ⟨congrArg Value.bool ?_, rfl, rfl⟩
        first
          | (rw [eq_comm, decide_eq_false_iff_not]; rintro ⟨e1, e2, e3, e4⟩; first | exact e31 e1 | omega)
          | (rw [decide_eq_decide]; exact ⟨fun h => ⟨e31, by omega, by omega, by omega⟩, fun h => by have := h.2; omega⟩)
      · refine dp ?_
        iterate 8 (refine dp ?_)
        iterate 2 (refine dt (hv := by exact O) ?_)
        refine dn ?_
        refine rtA [(500001, _)] ⟨congrArg Value.bool ?_, rfl, rfl⟩
        first
          | (rw [eq_comm, decide_eq_false_iff_not]; rintro ⟨e1, e2, e3, e4⟩; first | exact e31 e1 | omega)
          | (rw [decide_eq_decide]; exact ⟨fun h => ⟨e31, by omega, by omega, by omega⟩, fun h => by have := h.2; omega⟩)
    · refine dp ?_
      iterate 4 (refine dp ?_)
      iterate 2 (refine dt (hv := by exact O) ?_)
      iterate 9 (refine dp ?_)
      iterate 2 (refine dt (hv := by exact O) ?_)
      refine dn ?_
      refine rtA [(500001, _)] ⟨congrArg Value.bool ?_, rfl, rfl⟩
      first
        | (rw [eq_comm, decide_eq_false_iff_not]; rintro ⟨e1, e2, e3, e4⟩; first | exact e31 e1 | omega)
        | (rw [decide_eq_decide]; exact ⟨fun h => ⟨e31, by omega, by omega, by omega⟩, fun h => by have := h.2; omega⟩)
  · have e31 : s.extract 0 4 ≠ vOne := bq_f g31
    refine dp ?_
    refine dpe (hkp := by first | exact Kept.all | exact Kept.k0 | exact Kept.kY | exact Kept.kYY | exact Kept.kY3) ?_
    refine dp ?_
    iterate 2 (refine dt (hv := by exact O) ?_)
    iterate 5 (refine dp ?_)
    iterate 2 (refine dt (hv := by exact O) ?_)
    iterate 9 (refine dp ?_)
    iterate 2 (refine dt (hv := by exact O) ?_)
    refine dn ?_
    refine rtA [(500001, _)] ⟨congrArg Value.bool ?_, rfl, rfl⟩
    first
      | (rw [eq_comm, decide_eq_false_iff_not]; rintro ⟨e1, e2, e3, e4⟩; first | exact e31 e1 | omega)
      | (rw [decide_eq_decide]; exact ⟨fun h => ⟨e31, by omega, by omega, by omega⟩, fun h => by have := h.2; omega⟩)

end Go.Proofs.Ytfcckfiipbdnkaa.Am
namespace Go.Proofs.Ytfcckfiipbdnkaa.Am
set_option linter.unusedSimpArgs false
set_option linter.unusedVariables false
set_option maxRecDepth 100000
set_option maxHeartbeats 4000000
open Go Go.RowKit
theorem hmtx_CA (F : Mem) (s : ByteArray) (u a d g n h : Int) (B : Nat → Int) (lo : Bool) (h1 : 1 ≤ h) (h2 : h ≤ n) (h3 : n ≤ 4096) (hb : s.size ≤ 140737488355328) : CA Try.prog [500001] [500001, 500002, 500003] 44 [.pointer (some ⟨500001, 0, some 0⟩), .string s] F [(500001, rdRow 53 u a d g B lo (.slice none 0 0) (.slice none 0 0) n h)] (fun v Y K' => Y = [] ∧ ((v = .bool false ∧ ¬ okHm s n h ∧ K' = [(500001, rdRow 53 u a d g B lo (.slice none 0 0) (.slice none 0 0) n h)]) ∨ (v = .bool true ∧ okHm s n h ∧ ∃ p q, K' = [(500001, rdRow 53 u a d g B lo (.slice (some ⟨500002, 0, some 0⟩) n.toNat p) (.slice (some ⟨500003, 0, some 0⟩) n.toNat q) n h), (500002, { elem := 3, cs := ivs ((List.range n.toNat).map (advAt s h.toNat)), room := p * 1, fz := false, flat := true }), (500003, { elem := 3, cs := ivs ((List.range n.toNat).map (bearAt s h.toNat)), room := q * 1, fz := false, flat := true })]))) := by
  refine CA.go hT Try.func44 Try.ntmps44 ?_
  refine sq ?_
  refine rg ?_
  refine st (h := O) ?_
  refine nl ?_
  iterate 2 (refine sq ?_)
  refine dr 19 [500001] [0, 1, 2, 3, 4, 5, 6, 7, 8, 9, 10, 11, 12, 13, 14, 15, 16, 17, 18] ?_
  iterate 4 (refine dt (hv := by exact O) ?_)
  refine dt (hv := by exact sdFA) ?_
  refine dt (hv := by exact sdL) ?_
  refine dt (hv := by exact sdM) ?_
  iterate 2 (refine dt (hv := by exact O) ?_)
  refine dt (hv := by exact sdFA) ?_
  refine dt (hv := by exact sdL) ?_
  iterate 2 (refine dt (hv := by exact O) ?_)
  refine dt (hv := by exact sdFA) ?_
  refine dt (hv := by exact sdL) ?_
  refine dt (hv := by exact sdS) ?_
  refine dt (hv := by exact sdM) ?_
  refine dt (hv := by exact sdA) ?_
  refine dt (hv := by exact O) ?_
  refine dn ?_
  refine cD (fun c0 => ?_) (fun c0 => ?_)
  · refine sq ?_
    refine rg ?_
    refine st (h := O) ?_
    refine nl ?_
    exact rtA [(500001, _)] ⟨rfl, .inl ⟨rfl, by unfold okHm; omega, rfl⟩⟩
  · have hok : okHm s n h := by unfold okHm; omega
    refine sk ?_
    iterate 2 (refine sq ?_)
    refine rg ?_
    iterate 2 (refine st (h := O) ?_)
    refine st (h := sdFA) ?_
    refine st (h := sdL) ?_
    refine st (h := O) ?_
    refine nl ?_
    refine bl ?_
    refine J.loop5 (α := Option (Nat × Nat)) (β := Nat) (γ := Nat) (δ := List Value) (ε := List Value) (fun o m k ca cb => k ≤ n.toNat ∧ m = k ∧ apB (o.map Prod.fst) m ∧ apB (o.map Prod.snd) m ∧ ca = ivs ((List.range k).map (advAt s h.toNat)) ∧ cb = ivs ((List.range k).map (bearAt s h.toNat))) (fun o m k ca cb => [(30, .int .i64 k)]) [(0, _), (1, _), (29, _)] (fun o m k ca cb => apR 500002 3 1 true (o.map Prod.fst) ca ++ apR 500003 3 1 true (o.map Prod.snd) cb ++ [(500001, rdRow 53 u a d g B lo (apV 500002 (o.map Prod.fst) m) (apV 500003 (o.map Prod.snd) m) n h)]) [] (fun o m k ca cb => n.toNat - k) (none) (0) (0) ([]) ([]) (by exact ⟨rfl, trivial⟩) (by exact ⟨rfl, rfl, rfl, trivial⟩) (by exact (by repeat' first | exact trivial | refine And.intro rfl ?_)) ?_ ?_
    · exact ⟨Nat.zero_le _, rfl, rfl, rfl, rfl, rfl⟩
    · intro o m k ca cb L1 K1 e1 e2 hI
      rcases o with _ | cap_o
      all_goals
        dsimp only [apV, apR, List.cons_append, List.nil_append] at e1 e2
        subst e1 e2
        obtain ⟨hk1, hmk, ha1, ha2, hca, hcb⟩ := hI
        simp only [apB, Option.map_none, Option.map_some] at ha1 ha2
        try (obtain rfl : m = 0 := ha1)
        refine sq ?_
        refine rg ?_
        refine st (h := O) ?_
        refine nl ?_
        refine sq ?_
        refine cD (fun c1 => ?_) (fun c1 => ?_)
        · have hkn : k < n.toNat := by omega
          have hcl : ca.length = k := by rw [hca, ivs_length]; simp
          have hcl2 : cb.length = k := by rw [hcb, ivs_length]; simp
          refine sk ?_
          refine sq ?_
          refine bl ?_
          refine sq ?_
          refine rg ?_
          iterate 2 (refine st (h := O) ?_)
          refine nl ?_
          refine sq ?_
          refine rg ?_
          iterate 3 (refine st (h := O) ?_)
          refine st (h := sdFA) ?_
          refine st (h := sdL) ?_
          refine st (h := sdS) ?_
          iterate 2 (refine st (h := O) ?_)
          refine nl ?_
          refine sq ?_
          refine dr 11 [500001, 500002, 500003] [2000, 2001, 2002, 2003, 2004, 5, 2006, 2007, 2008, 1009, 1010, 1011, 2012, 2013, 2014, 1015] ?_
          iterate 3 (refine dq (hv := by exact fun _ _ => O) ?_)
          iterate 2 (refine dq (hv := by exact fun _ _ => sdFA) ?_)
          refine dt (hv := by exact sdL) ?_
          iterate 2 (refine dq (hv := by exact fun _ _ => O) ?_)
          refine dq (hv := by exact fun _ _ => sdM) ?_
          refine dcl (hkp := by first | exact Kept.all | exact Kept.k0 | exact Kept.kY | exact Kept.kYY | exact Kept.kY3) (h := by exact fun ι hV hl => (mk2_C _ s (4 * min k (h.toNat - 1)) (by omega) hb).ofR (arg2 rfl (congrArg (Value.int .i64) (show (4 * min (k : Int) (h - 1)) = ((4 * min k (h.toNat - 1) : Nat) : Int) from by omega)))) ?_
          refine dsl ?_
          first | refine dapN (news := [_]) 500012 true ?_ | refine dapO (news := [_]) 500012 ?_
          intro cap51 hc51 hd51
          refine dq (hv := by exact fun _ _ => O) ?_
          iterate 2 (refine dq (hv := by exact fun _ _ => sdFA) ?_)
          refine dso (hkp := by first | exact Kept.all | exact Kept.k0 | exact Kept.kY | exact Kept.kYY | exact Kept.kY3) ?_
          refine dn ?_
          refine sq ?_
          refine rg ?_
          iterate 3 (refine st (h := O) ?_)
          refine st (h := sdFA) ?_
          refine st (h := sdL) ?_
          refine st (h := O) ?_
          refine nl ?_
          refine cD (fun c2 => ?_) (fun c2 => ?_)
          · have eB : bearAt s h.toNat k = sg2 (two s (4 * k + 2)) := by rw [bearAt, if_pos (by omega)]
            refine dr 12 [500012, 50, 500001, 500003] [2000, 2001, 2002, 2003, 2004, 5, 2006, 2007, 2008, 2009, 1010, 1011, 1012, 2013, 2014, 2015, 1016] ?_
            iterate 3 (refine dq (hv := by exact fun _ _ => O) ?_)
            iterate 2 (refine dq (hv := by exact fun _ _ => sdFA) ?_)
            refine dt (hv := by exact sdL) ?_
            iterate 2 (refine dq (hv := by exact fun _ _ => O) ?_)
            refine dq (hv := by exact fun _ _ => sdM) ?_
            refine dq (hv := by exact fun _ _ => sdA) ?_
            refine dcl (hkp := by first | exact Kept.all | exact Kept.k0 | exact Kept.kY | exact Kept.kYY | exact Kept.kY3) (h := by exact fun ι hV hl => (mks_C _ s (4 * k + 2) (by omega) hb).ofR (arg2 rfl (congrArg (Value.int .i64) (show (4 * (k : Int) + 2) = ((4 * k + 2 : Nat) : Int) from by omega)))) ?_
            refine dsl ?_
            first | refine dapN (news := [_]) 500013 true ?_ | refine dapO (news := [_]) 500013 ?_
            intro cap73 hc73 hd73
            refine dq (hv := by exact fun _ _ => O) ?_
            iterate 2 (refine dq (hv := by exact fun _ _ => sdFA) ?_)
            refine dso (hkp := by first | exact Kept.all | exact Kept.k0 | exact Kept.kY | exact Kept.kYY | exact Kept.kY3) ?_
            refine dn ?_
            refine bk ?_
            refine rg ?_
            refine JL.retagC (A := 500001) (t := 500012) (u := 500002) (off := 9) [(0, _), (1, _), (29, _), (30, _)] [(500013, _)] ?_
            refine JL.retagC (A := 500001) (t := 500013) (u := 500003) (off := 10) [(0, _), (1, _), (29, _), (30, _)] [(500002, _)] ?_
            refine st (h := sdA) ?_
            refine st (h := O) ?_
            refine nl ?_
            refine bk5 (some (_, _)) (_) (k + 1) (_) (_) (by exact ⟨rfl, trivial⟩) (by exact ⟨rfl, rfl, rfl, trivial⟩) (by exact (by repeat' first | exact trivial | refine And.intro rfl ?_)) ?_ ?_
            · omega
            · refine ⟨by omega, by omega, ⟨by omega, by omega⟩, ⟨by omega, by omega⟩, ?_, ?_⟩
              · rw [List.range_succ, List.map_append, ivs_append, ← hca, List.map_cons, List.map_nil]
                first
                  | rfl
                  | (rw [show ca = [] from List.eq_nil_of_length_eq_zero (by omega)]; rfl)
              · rw [List.range_succ, List.map_append, ivs_append, ← hcb, List.map_cons, List.map_nil, eB]
                first
                  | rfl
                  | (rw [show cb = [] from List.eq_nil_of_length_eq_zero (by omega)]; rfl)
          · have eB : bearAt s h.toNat k = sg2 (two s (4 * h.toNat + 2 * (k - h.toNat))) := by rw [bearAt, if_neg (by omega)]
            refine dr 22 [500012, 50, 500001, 500003] [2000, 2001, 2002, 2003, 2004, 5, 2006, 2007, 2008, 2009, 2012, 2013, 2014, 2015, 5013] ?_
            iterate 3 (refine dq (hv := by exact fun _ _ => O) ?_)
            iterate 2 (refine dq (hv := by exact fun _ _ => sdFA) ?_)
            refine dt (hv := by exact sdL) ?_
            iterate 3 (refine dq (hv := by exact fun _ _ => O) ?_)
            refine dq (hv := by exact fun _ _ => sdFA) ?_
            iterate 3 (refine dq (hv := by exact fun _ _ => O) ?_)
            refine dq (hv := by exact fun _ _ => sdFA) ?_
            refine JD.alt (i := 10) (j := 16) [2011, 1016, 2017, 2018, 2019, 1020, 1021, 1022, 2023, 2024, 2025, 1026] [2017, 2018, 1010, 2011, 2019, 1020, 1021, 1022, 2023, 2024, 2025, 1026] ?_ ?_
            · refine jv (hv := by exact sdL) (hkp := by first | exact Kept.all | exact Kept.k0 | exact Kept.kY | exact Kept.kYY | exact Kept.kY3) ?_
              refine dq (hv := by exact fun _ _ => sdM) ?_
              refine dv (hv := by exact sdL) ?_
              refine dq (hv := by exact fun _ _ => sdS) ?_
              refine dq (hv := by exact fun _ _ => sdM) ?_
              refine dq (hv := by exact fun _ _ => sdA) ?_
              refine dcl (hkp := by first | exact Kept.all | exact Kept.k0 | exact Kept.kY | exact Kept.kYY | exact Kept.kY3) (h := by exact fun ι hV hl => (mks_C _ s (4 * h.toNat + 2 * (k - h.toNat)) (by omega) hb).ofR (arg2 rfl (congrArg (Value.int .i64) (show (4 * h + 2 * ((k : Int) - h)) = ((4 * h.toNat + 2 * (k - h.toNat) : Nat) : Int) from by omega)))) ?_
              refine dsl ?_
              first | refine dapN (news := [_]) 500013 true ?_ | refine dapO (news := [_]) 500013 ?_
              intro cap99 hc99 hd99
              refine dq (hv := by exact fun _ _ => O) ?_
              iterate 2 (refine dq (hv := by exact fun _ _ => sdFA) ?_)
              refine dso (hkp := by first | exact Kept.all | exact Kept.k0 | exact Kept.kY | exact Kept.kYY | exact Kept.kY3) ?_
              refine dn ?_
              refine bk ?_
              refine rg ?_
              refine JL.retagC (A := 500001) (t := 500012) (u := 500002) (off := 9) [(0, _), (1, _), (29, _), (30, _)] [(500013, _)] ?_
              refine JL.retagC (A := 500001) (t := 500013) (u := 500003) (off := 10) [(0, _), (1, _), (29, _), (30, _)] [(500002, _)] ?_
              refine st (h := sdA) ?_
              refine st (h := O) ?_
              refine nl ?_
              refine bk5 (some (_, _)) (_) (k + 1) (_) (_) (by exact ⟨rfl, trivial⟩) (by exact ⟨rfl, rfl, rfl, trivial⟩) (by exact (by repeat' first | exact trivial | refine And.intro rfl ?_)) ?_ ?_
              · omega
              · refine ⟨by omega, by omega, ⟨by omega, by omega⟩, ⟨by omega, by omega⟩, ?_, ?_⟩
                · rw [List.range_succ, List.map_append, ivs_append, ← hca, List.map_cons, List.map_nil]
                  first
                    | rfl
                    | (rw [show ca = [] from List.eq_nil_of_length_eq_zero (by omega)]; rfl)
                · rw [List.range_succ, List.map_append, ivs_append, ← hcb, List.map_cons, List.map_nil, eB]
                  first
                    | rfl
                    | (rw [show cb = [] from List.eq_nil_of_length_eq_zero (by omega)]; rfl)
            · refine jv (hv := by exact sdL) (hkp := by first | exact Kept.all | exact Kept.k0 | exact Kept.kY | exact Kept.kYY | exact Kept.kY3) ?_
              refine dq (hv := by exact fun _ _ => sdS) ?_
              refine dq (hv := by exact fun _ _ => sdM) ?_
              refine dv (hv := by exact sdL) ?_
              refine dq (hv := by exact fun _ _ => sdM) ?_
              refine dq (hv := by exact fun _ _ => sdA) ?_
              refine dcl (hkp := by first | exact Kept.all | exact Kept.k0 | exact Kept.kY | exact Kept.kYY | exact Kept.kY3) (h := by exact fun ι hV hl => (mks_C _ s (4 * h.toNat + 2 * (k - h.toNat)) (by omega) hb).ofR (arg2 rfl (congrArg (Value.int .i64) (show (4 * h + 2 * ((k : Int) - h)) = ((4 * h.toNat + 2 * (k - h.toNat) : Nat) : Int) from by omega)))) ?_
              refine dsl ?_
              first | refine dapN (news := [_]) 500013 true ?_ | refine dapO (news := [_]) 500013 ?_
              intro cap99 hc99 hd99
              refine dq (hv := by exact fun _ _ => O) ?_
              iterate 2 (refine dq (hv := by exact fun _ _ => sdFA) ?_)
              refine dso (hkp := by first | exact Kept.all | exact Kept.k0 | exact Kept.kY | exact Kept.kYY | exact Kept.kY3) ?_
              refine dn ?_
              refine bk ?_
              refine rg ?_
              refine JL.retagC (A := 500001) (t := 500012) (u := 500002) (off := 9) [(0, _), (1, _), (29, _), (30, _)] [(500013, _)] ?_
              refine JL.retagC (A := 500001) (t := 500013) (u := 500003) (off := 10) [(0, _), (1, _), (29, _), (30, _)] [(500002, _)] ?_
              refine st (h := sdA) ?_
              refine st (h := O) ?_
              refine nl ?_
              refine bk5 (some (_, _)) (_) (k + 1) (_) (_) (by exact ⟨rfl, trivial⟩) (by exact ⟨rfl, rfl, rfl, trivial⟩) (by exact (by repeat' first | exact trivial | refine And.intro rfl ?_)) ?_ ?_
              · omega
              · refine ⟨by omega, by omega, ⟨by omega, by omega⟩, ⟨by omega, by omega⟩, ?_, ?_⟩
                · rw [List.range_succ, List.map_append, ivs_append, ← hca, List.map_cons, List.map_nil]
                  first
                    | rfl
                    | (rw [show ca = [] from List.eq_nil_of_length_eq_zero (by omega)]; rfl)
                · rw [List.range_succ, List.map_append, ivs_append, ← hcb, List.map_cons, List.map_nil, eB]
                  first
                    | rfl
                    | (rw [show cb = [] from List.eq_nil_of_length_eq_zero (by omega)]; rfl)
        · refine ex ?_
          refine sq ?_
          refine rg ?_
          refine st (h := O) ?_
          refine nl ?_
          first
            | (exfalso; omega)
            | (obtain rfl : k = n.toNat := by omega
               subst hmk hca hcb
               exact rtA [(500001, _), (500002, _), (500003, _)] ⟨rfl, .inr ⟨rfl, hok, cap_o.1, cap_o.2, rfl⟩⟩)

end Go.Proofs.Ytfcckfiipbdnkaa.Am
namespace Go.Proofs.Ytfcckfiipbdnkaa.Am
set_option linter.unusedSimpArgs false
set_option linter.unusedVariables false
set_option maxRecDepth 100000
set_option maxHeartbeats 4000000
open Go Go.RowKit
def stepCs : Nat → List Value
  | 0 => [.string sMaxp, .int .i64 6, .func (.func 41) #[] #[]]
  | 1 => [.string sHead, .int .i64 54, .func (.func 42) #[] #[]]
  | 2 => [.string sHhea, .int .i64 36, .func (.func 43) #[] #[]]
  | _ => [.string sHmtx, .int .i64 0, .func (.func 44) #[] #[]]
theorem steps_C (F : Mem) : C Try.prog 25 [] F (fun u Y => ∃ b, u = .slice (some ⟨b, 0, none⟩) 4 4 ∧ ∀ G, Rd G Y → ∀ j < 4, lookN G ⟨b, j * 3, none⟩ 3 = some (stepCs j)) := by
  refine C.go hT Try.func25 Try.ntmps25 ?_
  refine sq ?_
  refine rg ?_
  refine st (h := O) ?_
  refine nl ?_
  refine sq ?_
  refine rg ?_
  iterate 4 (refine st (h := O) ?_)
  refine sl ?_
  refine st (h := O) ?_
  refine nl ?_
  refine rtX fun ι hV => ⟨ι 5, rfl, fun G hG j hj => ?_⟩
  have h : ∀ (o : Nat) u, (stepCs 0 ++ (stepCs 1 ++ (stepCs 2 ++ stepCs 3)))[o]? = some u → look G ⟨ι 5, o, none⟩ = some u := fun o u hu => hG _ (List.mem_map.2 ⟨_, List.mem_cons_self, rfl⟩) o u hu
  have aux : ∀ (o : Nat) (cs : List Value), (∀ i u, cs[i]? = some u → look G ⟨ι 5, o + i, none⟩ = some u) → lookN G ⟨ι 5, o, none⟩ cs.length = some cs := fun o cs h => lookN_of fun i v hv => h i v hv
  rcases (show j = 0 ∨ j = 1 ∨ j = 2 ∨ j = 3 from by omega) with rfl | rfl | rfl | rfl
  · exact aux 0 (stepCs 0) fun i u hu => h (0 + i) u (by
      have hi := (List.getElem?_eq_some_iff.1 hu).1
      rcases (show i = 0 ∨ i = 1 ∨ i = 2 from by simp [stepCs] at hi; omega) with rfl | rfl | rfl <;> exact hu)
  · exact aux 3 (stepCs 1) fun i u hu => h (3 + i) u (by
      have hi := (List.getElem?_eq_some_iff.1 hu).1
      rcases (show i = 0 ∨ i = 1 ∨ i = 2 from by simp [stepCs] at hi; omega) with rfl | rfl | rfl <;> exact hu)
  · exact aux 6 (stepCs 2) fun i u hu => h (6 + i) u (by
      have hi := (List.getElem?_eq_some_iff.1 hu).1
      rcases (show i = 0 ∨ i = 1 ∨ i = 2 from by simp [stepCs] at hi; omega) with rfl | rfl | rfl <;> exact hu)
  · exact aux 9 (stepCs 3) fun i u hu => h (9 + i) u (by
      have hi := (List.getElem?_eq_some_iff.1 hu).1
      rcases (show i = 0 ∨ i = 1 ∨ i = 2 from by simp [stepCs] at hi; omega) with rfl | rfl | rfl <;> exact hu)
/-- how far the reader is -/
structure RS where
  o : Option (Nat × Nat)
  u : Int
  a : Int
  d : Int
  g : Int
  n : Int
  h : Int
  B : Nat → Int
  lo : Bool
  m : Nat
  ca : List Value
  cb : List Value
def rs0 : RS := ⟨none, 0, 0, 0, 0, 0, 0, fun _ => 0, false, 0, [], []⟩
def nxt (j : Nat) (st : RS) (s : ByteArray) (B : Nat → Int) (p q : Nat) : RS := match j with
  | 0 => { st with n := two s 4 }
  | 1 => { st with u := two s 18, B := B, lo := decide (two s 50 = 1) }
  | 2 => { st with a := sg2 (two s 4), d := sg2 (two s 6), g := sg2 (two s 8), h := two s 34 }
  | _ => { st with o := some (p, q), m := st.n.toNat, ca := ivs ((List.range st.n.toNat).map (advAt s st.h.toNat)), cb := ivs ((List.range st.n.toNat).map (bearAt s st.h.toNat)) }
def RSI (om od oh ox : Option ByteArray) (j : Nat) (st : RS) : Prop :=
  (j = 0 ∧ st = rs0) ∨
  (j = 1 ∧ ∃ mp, om = some mp ∧ 6 ≤ mp.size ∧ okMp mp ∧ st = { rs0 with n := two mp 4 }) ∨
  (j = 2 ∧ ∃ mp hd B, om = some mp ∧ od = some hd ∧ 6 ≤ mp.size ∧ okMp mp ∧ 54 ≤ hd.size ∧ okHd hd ∧ (∀ i < 4, B i = sg2 (two hd (36 + 2 * i))) ∧ st = { rs0 with n := two mp 4, u := two hd 18, B := B, lo := decide (two hd 50 = 1) }) ∨
  (j = 3 ∧ ∃ mp hd hh B, om = some mp ∧ od = some hd ∧ oh = some hh ∧ 6 ≤ mp.size ∧ okMp mp ∧ 54 ≤ hd.size ∧ okHd hd ∧ 36 ≤ hh.size ∧ okHh hh (two mp 4) ∧ (∀ i < 4, B i = sg2 (two hd (36 + 2 * i))) ∧ st = { rs0 with n := two mp 4, u := two hd 18, B := B, lo := decide (two hd 50 = 1), a := sg2 (two hh 4), d := sg2 (two hh 6), g := sg2 (two hh 8), h := two hh 34 }) ∨
  (j = 4 ∧ ∃ mp hd hh hm B p q, om = some mp ∧ od = some hd ∧ oh = some hh ∧ ox = some hm ∧ okAll mp hd hh hm ∧ (∀ i < 4, B i = sg2 (two hd (36 + 2 * i))) ∧ st = ⟨some (p, q), two hd 18, sg2 (two hh 4), sg2 (two hh 6), sg2 (two hh 8), two mp 4, two hh 34, B, decide (two hd 50 = 1), (two mp 4).toNat, ivs ((List.range (two mp 4).toNat).map (advAt hm (two hh 34).toNat)), ivs ((List.range (two mp 4).toNat).map (bearAt hm (two hh 34).toNat))⟩)
theorem gs {o : Option ByteArray} (h : (!o.isSome) = false) : o = some (o.getD ⟨#[]⟩) := by cases o <;> simp at h ⊢
theorem kd {p : Prop} [Decidable p] (h : (!decide p) = false) : p := by simpa using h
theorem nt1_f (t f : Nat) : nt1 t (.func (.func f) #[] #[]) = true := rfl
theorem nt1_pw (t b o : Nat) : nt1 t (.pointer (some ⟨b, o, none⟩)) = true := rfl
/-- how metrics are given back, the advances' row first -/
def RedW (o : Option Met) (u : Value) (Y : List (Nat × Row)) : Prop := match o with
  | none => u = .tuple #[met0.v none 0 none 0, .int .i64 90]
  | some m => ∃ b c b' c' r Y', u = .tuple #[m.v (some ⟨b, 0, none⟩) c (some ⟨b', 0, none⟩) c', .int .i64 0] ∧ Y = (b, r) :: Y' ∧ r.cs = ivs m.adv ∧ m.adv.length ≤ 9223372036854775807 ∧ ∀ G, Rd G Y' → RIx G (some ⟨b', 0, none⟩) m.bear
theorem RedW.no {o : Option Met} {Y : List (Nat × Row)} (h : o = none) : RedW o (.tuple #[met0.v none 0 none 0, .int .i64 90]) Y := by subst h; rfl
theorem Rd.ixr {G : Mem} {Y : List (Nat × Row)} (h : Rd G Y) {b : Nat} {r : Row} {xs : List Int} (hm : (b, r) ∈ Y) (hcs : r.cs = Am.ivs xs) (hl : xs.length ≤ 9223372036854775807) : RIx G (some ⟨b, 0, none⟩) xs :=
  ⟨.inr (.inl ⟨_, _, rfl⟩), hl, fun _ => ⟨_, _, rfl, fun i x hx => by rw [Nat.zero_add]; exact h _ hm i _ (by rw [hcs]; exact ivs_get hx)⟩⟩
theorem RedW.met {o : Option Met} {u : Value} {Y : List (Nat × Row)} (h : RedW o u Y) : RedMet o u Y := by
  cases o with
  | none => exact h
  | some m =>
    obtain ⟨b, c, b', c', r, Y', e, rfl, hr, hl, hR⟩ := h
    exact ⟨b, c, b', c', e, fun G hG => ⟨hG.ixr List.mem_cons_self hr hl, hR G fun x hx => hG x (List.mem_cons_of_mem _ hx)⟩⟩
theorem mRead_W (F : Mem) (v : Value) (l : List Tb) (hv : kTb.S F v l) (hs : ∀ x ∈ l, x.2.size ≤ 140737488355328) : C Try.prog 10 [v] F (RedW (readD l)) := by
  have fF : ∀ G t, F.le G → C0 Try.prog 26 [v, .string t] G (fndV (fnd l t)) := fun G t hl => mFind_C G v l t (hv.le hl)
  have bM := fnd_bd hs sMaxp
  have bD := fnd_bd hs sHead
  have bH := fnd_bd hs sHhea
  have bX := fnd_bd hs sHmtx
  unfold readD
  obtain ⟨va, vn, vc, hva, rfl⟩ := hv.sl.op
  refine C.go hT Try.func10 Try.ntmps10 ?_
  refine sq ?_
  refine rg ?_
  refine al (hL := by simp [ntL, ntV, nt2, argL, hva.nt]) ?_
  refine st (h := O) ?_
  refine nl ?_
  refine sq ?_
  refine rg ?_
  refine st (h := O) ?_
  refine bx (hL := by simp [ntL, ntV, nt2, argL, hva.nt, nt1_p, nt1_i, nt1_b, nt1_n]) ?_
  refine st (h := O) ?_
  refine JL.retagP (d := 4) (t := 10) (u := 500001) (off := 0) [(2, _), (0, _)] [(2, _)] ?_ (hL := by simp [ntL, ntV, nt2, hva.nt, nt1_p])
  refine nl ?_
  iterate 2 (refine sq ?_)
  refine rg ?_
  refine clC (h := by exact fun ι hV hl => steps_C _) ?_
  intro st1 Y1 hQ1 hpv1 hpp1 hN1
  obtain ⟨sb, rfl, hst⟩ := hQ1
  have hst' := hst _ hN1.rows
  iterate 2 (refine st (h := O) ?_)
  refine nl ?_
  refine bl ?_
  refine J.loop2 (α := Nat) (β := RS) (fun j st => RSI (fnd l sMaxp) (fnd l sHead) (fnd l sHhea) (fnd l sHmtx) j st) (fun j st => [(13, .int .i64 j)]) [(0, _), (2, _), (4, _), (11, _), (12, _)] (fun j st => apR 500002 3 1 true (st.o.map Prod.fst) st.ca ++ apR 500003 3 1 true (st.o.map Prod.snd) st.cb ++ [(500001, rdRow 53 st.u st.a st.d st.g st.B st.lo (apV 500002 (st.o.map Prod.fst) st.m) (apV 500003 (st.o.map Prod.snd) st.m) st.n st.h)]) [(2, _)] (fun j st => 4 - j) (0) (rs0) (by exact ⟨rfl, trivial⟩) (by exact ⟨rfl, rfl, rfl, rfl, rfl, trivial⟩) (by exact (by repeat' first | exact trivial | refine And.intro rfl ?_)) ?_ ?_
  · exact .inl ⟨rfl, rfl⟩
  · intro j st L1 K1 e1 e2 hI
    dsimp only [apV, apR, List.cons_append, List.nil_append] at e1 e2
    subst e1 e2
    rcases hI with ⟨hj, rfl⟩ | ⟨hj, mp, e1, z1, k1, rfl⟩ | ⟨hj, mp, hd, B, e1, e2, z1, k1, z2, k2, hB, rfl⟩ | ⟨hj, mp, hd, hh, B, e1, e2, e3, z1, k1, z2, k2, z3, k3, hB, rfl⟩ | ⟨hj, mp, hd, hh, hm, B, p, q, e1, e2, e3, e4, hk, hB, rfl⟩
    all_goals
      refine sq ?_
      refine rg ?_
      refine st (h := O) ?_
      refine nl ?_
      refine sq ?_
      refine cD (fun c0 => ?_) (fun c0 => ?_)
      · try (exfalso; omega)
        all_goals
          obtain ⟨cs, hcs, q⟩ : ∃ cs, stepCs j = cs ∧ lookN (F.add Y1) ⟨sb, 0 + (j : Int).toNat * 3, none⟩ 3 = some cs := ⟨_, rfl, by rw [Nat.zero_add]; exact hst' j (by omega)⟩
          rw [hj] at hcs
          subst hcs
          refine sk ?_
          refine sq ?_
          refine bl ?_
          refine sq ?_
          refine rg ?_
          refine st (h := (sdX (z := 3))) ?_
          refine st (h := sdLN (hv := by exact q)) ?_
          refine al (hL := by simp [ntL, ntV, nt2, hva.nt, stepCs, nt1_p, nt1_i, nt1_b, nt1_s, nt1_f, nt1_pw, nt1_w]) ?_
          refine so ?_
          refine nl ?_
          refine sq ?_
          refine rg ?_
          refine st (h := O) ?_
          refine st (h := sdFA) ?_
          refine st (h := sdL) ?_
          refine cl (h := by exact fun ι hV hl => (fF _ _ (fun a v q => hl a v (hN1.le a v q))).ofR (arg2 (hva.rV ι _ _) rfl)) ?_
          iterate 5 (refine st (h := O) ?_)
          refine nl ?_
          refine sq ?_
          refine rg ?_
          iterate 3 (refine st (h := O) ?_)
          refine gB (fun g26 => ?_) (fun g26 => ?_)
          · refine sp ?_
            iterate 4 (refine sp ?_)
            iterate 2 (refine st (h := O) ?_)
            iterate 4 (refine sp ?_)
            first
              | refine sp ?_
              | (refine clgA [500001] [500001] [500001, 2] [(0, _), (2, _), (4, _), (11, _), (12, _), (13, _), (33, _)] [(500001, _)] [(2, _)] (hL := by simp [tgV, tg2, hva.tg, tg1_i, tg1_b]; exact ⟨rfl, rfl, rfl⟩) (h := by exact fun ι hV hl => maxp_CA _ _ _ _ _ _ _ _ _ _ (by omega) bM) ?_
                 intro v Y K' hQ hp hN
                 obtain ⟨rfl, rfl, rfl⟩ := hQ
                 let st' : RS := nxt 0 rs0 ((fnd l sMaxp).getD ⟨#[]⟩) (fun _ => 0) 0 0)
              | (refine clgA [500001] [500001] [500001, 2] [(0, _), (2, _), (4, _), (11, _), (12, _), (13, _), (33, _)] [(500001, _)] [(2, _)] (hL := by simp [tgV, tg2, hva.tg, tg1_i, tg1_b]; exact ⟨rfl, rfl, rfl⟩) (h := by exact fun ι hV hl => head_CA _ _ _ _ _ _ _ _ _ _ (by omega) bD) ?_
                 intro v Y K' hQ hp hN
                 obtain ⟨rfl, rfl, B', hB', rfl⟩ := hQ
                 let st' : RS := nxt 1 { rs0 with n := two mp 4 } ((fnd l sHead).getD ⟨#[]⟩) B' 0 0)
              | (refine clgA [500001] [500001] [500001, 2] [(0, _), (2, _), (4, _), (11, _), (12, _), (13, _), (33, _)] [(500001, _)] [(2, _)] (hL := by simp [tgV, tg2, hva.tg, tg1_i, tg1_b]; exact ⟨rfl, rfl, rfl⟩) (h := by exact fun ι hV hl => hhea_CA _ _ _ _ _ _ _ _ _ _ (by omega) bH) ?_
                 intro v Y K' hQ hp hN
                 obtain ⟨rfl, rfl, rfl⟩ := hQ
                 let st' : RS := nxt 2 { rs0 with n := two mp 4, u := two hd 18, B := B, lo := decide (two hd 50 = 1) } ((fnd l sHhea).getD ⟨#[]⟩) B 0 0)
              | (refine clgA [500001] [500001, 500002, 500003] [500001, 2] [(0, _), (2, _), (4, _), (11, _), (12, _), (13, _), (33, _)] [(500001, _)] [(2, _)] (hL := by simp [tgV, tg2, hva.tg, tg1_i, tg1_b]; exact ⟨rfl, rfl, rfl⟩) (h := by exact fun ι hV hl => hmtx_CA _ _ _ _ _ _ _ _ _ _ k3.2.2.1 k3.2.2.2 k1.2.2 bX) ?_
                 intro v Y K' hQ hp hN
                 obtain ⟨rfl, hQ⟩ := hQ
                 rcases hQ with ⟨rfl, hno, rfl⟩ | ⟨rfl, hyes, p, q2, rfl⟩
                 · refine sg (h := O) ?_
                   refine st (h := O) ?_
                   refine nl ?_
                   refine cT ?_
                   refine sq ?_
                   refine rg ?_
                   refine st (h := O) ?_
                   refine so ?_
                   refine st (h := O) ?_
                   refine nl ?_
                   refine J.dropF (F := F) (Y := Y1) ?_
                   refine rt (RedW.no (readO_none fun mp' hd' hh' hm' f1 f2 f3 f4 hk => hno ?_))
                   rw [e1] at f1
                   rw [e3] at f3
                   cases f1
                   cases f3
                   rw [f4]
                   exact hk.2.2.2.2.2.2
                 let st' : RS := nxt 3 { rs0 with n := two mp 4, u := two hd 18, B := B, lo := decide (two hd 50 = 1), a := sg2 (two hh 4), d := sg2 (two hh 6), g := sg2 (two hh 8), h := two hh 34 } ((fnd l sHmtx).getD ⟨#[]⟩) B p q2)
            refine sp ?_
            refine st (h := O) ?_
            refine nl ?_
            refine cT ?_
            refine sq ?_
            refine rg ?_
            refine st (h := O) ?_
            refine so ?_
            refine st (h := O) ?_
            refine nl ?_
            refine J.dropF (F := F) (Y := Y1) ?_
            exact rt (RedW.no (readO_none fun mp' hd' hh' hm' f1 f2 f3 f4 hk => by simp [f1, f2, f3, f4] at g26))
          · refine sg (h := O) ?_
            refine sg (h := O) ?_
            refine sg (h := sdFA) ?_
            refine sg (h := sdL) ?_
            refine sg (h := O) ?_
            iterate 2 (refine st (h := O) ?_)
            refine gD (fun g33 => ?_) (fun g33 => ?_)
            · refine sp ?_
              iterate 3 (refine sp ?_)
              first
                | refine sp ?_
                | (refine clgA [500001] [500001] [500001, 2] [(0, _), (2, _), (4, _), (11, _), (12, _), (13, _), (33, _)] [(500001, _)] [(2, _)] (hL := by simp [tgV, tg2, hva.tg, tg1_i, tg1_b]; exact ⟨rfl, rfl, rfl⟩) (h := by exact fun ι hV hl => maxp_CA _ _ _ _ _ _ _ _ _ _ (by omega) bM) ?_
                   intro v Y K' hQ hp hN
                   obtain ⟨rfl, rfl, rfl⟩ := hQ
                   let st' : RS := nxt 0 rs0 ((fnd l sMaxp).getD ⟨#[]⟩) (fun _ => 0) 0 0)
                | (refine clgA [500001] [500001] [500001, 2] [(0, _), (2, _), (4, _), (11, _), (12, _), (13, _), (33, _)] [(500001, _)] [(2, _)] (hL := by simp [tgV, tg2, hva.tg, tg1_i, tg1_b]; exact ⟨rfl, rfl, rfl⟩) (h := by exact fun ι hV hl => head_CA _ _ _ _ _ _ _ _ _ _ (by omega) bD) ?_
                   intro v Y K' hQ hp hN
                   obtain ⟨rfl, rfl, B', hB', rfl⟩ := hQ
                   let st' : RS := nxt 1 { rs0 with n := two mp 4 } ((fnd l sHead).getD ⟨#[]⟩) B' 0 0)
                | (refine clgA [500001] [500001] [500001, 2] [(0, _), (2, _), (4, _), (11, _), (12, _), (13, _), (33, _)] [(500001, _)] [(2, _)] (hL := by simp [tgV, tg2, hva.tg, tg1_i, tg1_b]; exact ⟨rfl, rfl, rfl⟩) (h := by exact fun ι hV hl => hhea_CA _ _ _ _ _ _ _ _ _ _ (by omega) bH) ?_
                   intro v Y K' hQ hp hN
                   obtain ⟨rfl, rfl, rfl⟩ := hQ
                   let st' : RS := nxt 2 { rs0 with n := two mp 4, u := two hd 18, B := B, lo := decide (two hd 50 = 1) } ((fnd l sHhea).getD ⟨#[]⟩) B 0 0)
                | (refine clgA [500001] [500001, 500002, 500003] [500001, 2] [(0, _), (2, _), (4, _), (11, _), (12, _), (13, _), (33, _)] [(500001, _)] [(2, _)] (hL := by simp [tgV, tg2, hva.tg, tg1_i, tg1_b]; exact ⟨rfl, rfl, rfl⟩) (h := by exact fun ι hV hl => hmtx_CA _ _ _ _ _ _ _ _ _ _ k3.2.2.1 k3.2.2.2 k1.2.2 bX) ?_
                   intro v Y K' hQ hp hN
                   obtain ⟨rfl, hQ⟩ := hQ
                   rcases hQ with ⟨rfl, hno, rfl⟩ | ⟨rfl, hyes, p, q2, rfl⟩
                   · refine sg (h := O) ?_
                     refine st (h := O) ?_
                     refine nl ?_
                     refine cT ?_
                     refine sq ?_
                     refine rg ?_
                     refine st (h := O) ?_
                     refine so ?_
                     refine st (h := O) ?_
                     refine nl ?_
                     refine J.dropF (F := F) (Y := Y1) ?_
                     refine rt (RedW.no (readO_none fun mp' hd' hh' hm' f1 f2 f3 f4 hk => hno ?_))
                     rw [e1] at f1
                     rw [e3] at f3
                     cases f1
                     cases f3
                     rw [f4]
                     exact hk.2.2.2.2.2.2
                   let st' : RS := nxt 3 { rs0 with n := two mp 4, u := two hd 18, B := B, lo := decide (two hd 50 = 1), a := sg2 (two hh 4), d := sg2 (two hh 6), g := sg2 (two hh 8), h := two hh 34 } ((fnd l sHmtx).getD ⟨#[]⟩) B p q2)
              refine sp ?_
              refine st (h := O) ?_
              refine nl ?_
              refine cT ?_
              refine sq ?_
              refine rg ?_
              refine st (h := O) ?_
              refine so ?_
              refine st (h := O) ?_
              refine nl ?_
              refine J.dropF (F := F) (Y := Y1) ?_
              exact rt (RedW.no (readO_none fun mp' hd' hh' hm' f1 f2 f3 f4 hk => by
                have := hk.1
                have := hk.2.1
                have := hk.2.2.1
                simp only [f1, f2, f3, f4, Option.getD_some] at g33
                omega))
            · refine sg (h := sdFA) ?_
              refine sg (h := sdL) ?_
              iterate 2 (refine sg (h := O) ?_)
              first
                | refine sp ?_
                | (refine clgA [500001] [500001] [500001, 2] [(0, _), (2, _), (4, _), (11, _), (12, _), (13, _), (33, _)] [(500001, _)] [(2, _)] (hL := by simp [tgV, tg2, hva.tg, tg1_i, tg1_b]; exact ⟨rfl, rfl, rfl⟩) (h := by exact fun ι hV hl => maxp_CA _ _ _ _ _ _ _ _ _ _ (by omega) bM) ?_
                   intro v Y K' hQ hp hN
                   obtain ⟨rfl, rfl, rfl⟩ := hQ
                   let st' : RS := nxt 0 rs0 ((fnd l sMaxp).getD ⟨#[]⟩) (fun _ => 0) 0 0)
                | (refine clgA [500001] [500001] [500001, 2] [(0, _), (2, _), (4, _), (11, _), (12, _), (13, _), (33, _)] [(500001, _)] [(2, _)] (hL := by simp [tgV, tg2, hva.tg, tg1_i, tg1_b]; exact ⟨rfl, rfl, rfl⟩) (h := by exact fun ι hV hl => head_CA _ _ _ _ _ _ _ _ _ _ (by omega) bD) ?_
                   intro v Y K' hQ hp hN
                   obtain ⟨rfl, rfl, B', hB', rfl⟩ := hQ
                   let st' : RS := nxt 1 { rs0 with n := two mp 4 } ((fnd l sHead).getD ⟨#[]⟩) B' 0 0)
                | (refine clgA [500001] [500001] [500001, 2] [(0, _), (2, _), (4, _), (11, _), (12, _), (13, _), (33, _)] [(500001, _)] [(2, _)] (hL := by simp [tgV, tg2, hva.tg, tg1_i, tg1_b]; exact ⟨rfl, rfl, rfl⟩) (h := by exact fun ι hV hl => hhea_CA _ _ _ _ _ _ _ _ _ _ (by omega) bH) ?_
                   intro v Y K' hQ hp hN
                   obtain ⟨rfl, rfl, rfl⟩ := hQ
                   let st' : RS := nxt 2 { rs0 with n := two mp 4, u := two hd 18, B := B, lo := decide (two hd 50 = 1) } ((fnd l sHhea).getD ⟨#[]⟩) B 0 0)
                | (refine clgA [500001] [500001, 500002, 500003] [500001, 2] [(0, _), (2, _), (4, _), (11, _), (12, _), (13, _), (33, _)] [(500001, _)] [(2, _)] (hL := by simp [tgV, tg2, hva.tg, tg1_i, tg1_b]; exact ⟨rfl, rfl, rfl⟩) (h := by exact fun ι hV hl => hmtx_CA _ _ _ _ _ _ _ _ _ _ k3.2.2.1 k3.2.2.2 k1.2.2 bX) ?_
                   intro v Y K' hQ hp hN
                   obtain ⟨rfl, hQ⟩ := hQ
                   rcases hQ with ⟨rfl, hno, rfl⟩ | ⟨rfl, hyes, p, q2, rfl⟩
                   · refine sg (h := O) ?_
                     refine st (h := O) ?_
                     refine nl ?_
                     refine cT ?_
                     refine sq ?_
                     refine rg ?_
                     refine st (h := O) ?_
                     refine so ?_
                     refine st (h := O) ?_
                     refine nl ?_
                     refine J.dropF (F := F) (Y := Y1) ?_
                     refine rt (RedW.no (readO_none fun mp' hd' hh' hm' f1 f2 f3 f4 hk => hno ?_))
                     rw [e1] at f1
                     rw [e3] at f3
                     cases f1
                     cases f3
                     rw [f4]
                     exact hk.2.2.2.2.2.2
                   let st' : RS := nxt 3 { rs0 with n := two mp 4, u := two hd 18, B := B, lo := decide (two hd 50 = 1), a := sg2 (two hh 4), d := sg2 (two hh 6), g := sg2 (two hh 8), h := two hh 34 } ((fnd l sHmtx).getD ⟨#[]⟩) B p q2)
              refine sg (h := O) ?_
              refine st (h := O) ?_
              refine nl ?_
              refine cB (fun c1 => ?_) (fun c1 => ?_)
              · refine sq ?_
                refine rg ?_
                refine st (h := O) ?_
                refine so ?_
                refine st (h := O) ?_
                refine nl ?_
                first
                  | (exfalso; exact Bool.noConfusion c1; done)
                  | (refine J.dropF (F := F) (Y := Y1) ?_
                     refine rt (RedW.no (readO_none fun mp' hd' hh' hm' f1 f2 f3 f4 hk => ?_))
                     simp only [Bool.not_eq_true', decide_eq_false_iff_not] at c1
                     obtain ⟨w1, w2, w3, w4, w5, w6, w7⟩ := hk
                     first
                       | exact c1 (by rw [f1]; exact w4)
                       | exact c1 (by rw [f2]; exact w5)
                       | (rw [e1] at f1; cases f1; exact c1 (by rw [f3]; exact w6)))
              · refine sk ?_
                refine bk ?_
                refine rg ?_
                refine st (h := sdA) ?_
                refine st (h := O) ?_
                refine nl ?_
                refine bk2 (j + 1) (st') (by exact ⟨rfl, trivial⟩) (by exact ⟨rfl, rfl, rfl, rfl, rfl, trivial⟩) (by exact (by repeat' first | exact trivial | refine And.intro rfl ?_)) ?_ ?_
                · omega
                · first
                    | exact .inr (.inl ⟨by omega, _, gs g26, by omega, kd c1, rfl⟩)
                    | exact .inr (.inr (.inl ⟨by omega, mp, _, B', e1, gs g26, z1, k1, by omega, kd c1, hB', rfl⟩))
                    | exact .inr (.inr (.inr (.inl ⟨by omega, mp, hd, _, B, e1, e2, gs g26, z1, k1, z2, k2, by omega, kd c1, hB, rfl⟩)))
                    | exact .inr (.inr (.inr (.inr ⟨by omega, mp, hd, hh, _, B, p, q2, e1, e2, e3, gs g26, ⟨z1, z2, z3, k1, k2, k3, hyes⟩, hB, rfl⟩)))
      · refine ex ?_
        refine sq ?_
        refine rg ?_
        iterate 2 (refine st (h := O) ?_)
        refine st (h := sdFA) ?_
        refine st (h := sdLN) ?_
        refine so ?_
        refine st (h := O) ?_
        refine nl ?_
        first
          | (exfalso; omega)
          | (refine J.dropF (F := F) (Y := Y1) ?_
             refine rtX fun ι hV => ?_
             have hok : readO (fnd l sMaxp) (fnd l sHead) (fnd l sHhea) (fnd l sHmtx) = some (metOf mp hd hh hm) := by rw [e1, e2, e3, e4]; exact if_pos hk
             rw [hok]
             have b0 : sg2 (two hd (36 + 2 * 0)) = B 0 := (hB 0 (by omega)).symm
             have b1 : sg2 (two hd (36 + 2 * 1)) = B 1 := (hB 1 (by omega)).symm
             have b2 : sg2 (two hd (36 + 2 * 2)) = B 2 := (hB 2 (by omega)).symm
             have b3 : sg2 (two hd (36 + 2 * 3)) = B 3 := (hB 3 (by omega)).symm
             have hn := hk.2.2.2.1.2
             refine ⟨ι 500002, p, ι 500003, q, _, _, ?_, rfl, ?_, by simp [metOf]; omega, fun G hG => ?_⟩
             · simp only [Met.v, metOf, List.length_map, List.length_range, b0, b1, b2, b3]
               rfl
             · show List.map (r1 ι) (ivs _) = ivs _
               unfold ivs
               rw [List.map_map]
               exact List.map_congr_left fun _ _ => rfl
             · exact hG.ix (List.mem_map.2 ⟨_, List.mem_cons_self, rfl⟩) rfl (by simp [metOf]; omega))
theorem mRead_C (F : Mem) (v : Value) (l : List Tb) (hv : kTb.S F v l) (hs : ∀ x ∈ l, x.2.size ≤ 140737488355328) : C Try.prog 10 [v] F (RedMet (readD l)) :=
  (mRead_W F v l hv hs).mono fun _ _ h => h.met

end Go.Proofs.Ytfcckfiipbdnkaa.Am
namespace Go.Proofs.Ytfcckfiipbdnkaa.Am
set_option linter.unusedSimpArgs false
set_option linter.unusedVariables false
open Go Go.RowKit
/-! Texts of bytes, appended to rows of bytes. -/
theorem appTx {P : Program} {F : Mem} {K : Own} {ns : List Int} (h : bys ns) : App P F K 1 (.string (tx ns)) ns.length (bvs ns) := by
  have := App.string (P := P) (F := F) (K := K) (tx ns)
  rwa [tx_size, bytesV_tx h] at this
theorem appTx2 {P : Program} {F : Mem} {K : Own} (x : Int) : App P F K 1 (.string (tx [hiB x, loB x])) 2 (bvs [hiB x, loB x]) := appTx (hl_bys x)
end Go.Proofs.Ytfcckfiipbdnkaa.Am
namespace Go.Proofs.Ytfcckfiipbdnkaa.Am
set_option linter.unusedSimpArgs false
set_option linter.unusedVariables false
set_option maxRecDepth 100000
set_option maxHeartbeats 4000000
open Go Go.RowKit
def tb2 (x : Int) : List Int := [hiB x, loB x]
def zz (n : Nat) : List Int := List.replicate n 0
def lgI (b : Bool) : Int := if b then 1 else 0
def headN (m : Met) : List Int := [0, 1, 0, 0, 0, 1, 0, 0] ++ zz 4 ++ [95, 15, 60, 245] ++ zz 2 ++ tb2 m.up ++ zz 16 ++ tb2 (m.box 0) ++ tb2 (m.box 1) ++ tb2 (m.box 2) ++ tb2 (m.box 3) ++ zz 4 ++ tb2 2 ++ tb2 (lgI m.long) ++ zz 2
def hheaN (m : Met) : List Int := [0, 1, 0, 0] ++ tb2 m.asc ++ tb2 m.desc ++ tb2 m.gap ++ tb2 (mx m.adv (m.adv.length - 1)) ++ zz 22 ++ tb2 m.adv.length
def hmtxN (m : Met) : Nat → List Int
  | 0 => []
  | k + 1 => hmtxN m k ++ (tb2 (ints m.adv k) ++ tb2 (ints m.bear k))
def maxpN (m : Met) : List Int := [0, 1, 0, 0] ++ tb2 m.adv.length ++ zz 8 ++ tb2 2 ++ zz 16
theorem tb2_bys (x : Int) : bys (tb2 x) := hl_bys x
theorem hmtxN_length (m : Met) : ∀ k, (hmtxN m k).length = 4 * k
  | 0 => rfl
  | k + 1 => by rw [hmtxN, List.length_append, hmtxN_length m k]; simp [tb2]; omega
/-- the greatest, from nothing on -/
def mx0 (xs : List Int) : Nat → Int
  | 0 => 0
  | k + 1 => max (mx0 xs k) (ints xs k)
theorem mx0_eq {xs : List Int} (h : 0 ≤ ints xs 0) : ∀ k, mx0 xs (k + 1) = mx xs k
  | 0 => by rw [mx0, mx0, mx]; omega
  | k + 1 => by rw [mx0, mx0_eq h k, mx]
theorem mx0_bd {xs : List Int} : ∀ k, (∀ j < k, 0 ≤ ints xs j ∧ ints xs j ≤ 65535) → 0 ≤ mx0 xs k ∧ mx0 xs k ≤ 65535
  | 0, _ => by rw [mx0]; omega
  | k + 1, h => by
    have := mx0_bd k fun j hj => h j (by omega)
    have := h k (by omega)
    rw [mx0]; omega
def tbsM (m : Met) : List Tb := [(sHead, tx (headN m)), (sHhea, tx (hheaN m)), (sHmtx, tx (hmtxN m m.adv.length)), (sMaxp, tx (maxpN m))]
/-- the tables that are built, or none -/
def bldD (m : Met) : Option (List Tb) := if m.good then some (tbsM m) else none
def tbV (l : List Tb) : List Value := (l.map fun x => [Value.string x.1, Value.string x.2]).flatten
theorem tbV_at : ∀ (l : List Tb) (i : Nat) (x : Tb), l[i]? = some x → (tbV l)[i * 2]? = some (.string x.1) ∧ (tbV l)[i * 2 + 1]? = some (.string x.2)
  | [], i, x, h => by simp at h
  | y :: l, 0, x, h => by
    simp only [List.getElem?_cons_zero, Option.some.injEq] at h
    subst h
    exact ⟨rfl, rfl⟩
  | y :: l, i + 1, x, h => by
    have := tbV_at l i x (by simpa using h)
    rw [show (i + 1) * 2 = i * 2 + 2 from by omega]
    exact this
theorem kTb_row {G : Mem} {Y : List (Nat × Row)} (h : Rd G Y) {b c : Nat} {ι : Nat → Nat} {r : Row} {l : List Tb} (hm : (b, r.r ι) ∈ Y) (hcs : r.cs = tbV l) (hl : l.length ≤ 9223372036854775807) : kTb.S G (.slice (some ⟨b, 0, none⟩) l.length c) l := by
  refine .inl ⟨b, 0, c, rfl, hl, fun i x hx => ⟨[.string x.1, .string x.2], ?_, [.string x.1], [.string x.2], rfl, rfl, rfl⟩⟩
  have hg : ∀ o u, r.cs[o]? = some u → look G ⟨b, o, none⟩ = some (r1 ι u) := fun o u hu => h _ hm o _ (by simp [Row.r, hu])
  rw [hcs] at hg
  obtain ⟨e1, e2⟩ := tbV_at l i x hx
  refine lookN_of (cs := [.string x.1, .string x.2]) fun j v hv => ?_
  rcases j with _ | _ | j
  · simp only [List.getElem?_cons_zero, Option.some.injEq] at hv
    subst hv
    have := hg _ _ e1
    rw [Nat.zero_add]; exact this
  · simp only [Nat.zero_add, List.getElem?_cons_succ, List.getElem?_cons_zero, Option.some.injEq] at hv
    subst hv
    have := hg _ _ e2
    rw [Nat.zero_add]; exact this
  · simp at hv
/-- how tables are given back -/
def RedTb (o : Option (List Tb)) (u : Value) (Y : List (Nat × Row)) : Prop := match o with
  | none => u = .tuple #[.slice none 0 0, .int .i64 90]
  | some l => ∃ b, u = .tuple #[.slice (some ⟨b, 0, none⟩) l.length l.length, .int .i64 0] ∧ ∀ G, Rd G Y → kTb.S G (.slice (some ⟨b, 0, none⟩) l.length l.length) l
theorem RedTb.no {o : Option (List Tb)} {Y : List (Nat × Row)} (h : o = none) : RedTb o (.tuple #[.slice none 0 0, .int .i64 90]) Y := by subst h; rfl
theorem rBuild_C (F : Mem) (m : Met) (ga ha : Option Addr) (gc hc : Nat) (hga : RIx F ga m.adv) (hha : RIx F ha m.bear) : C Try.prog 17 [m.v ga gc ha hc] F (RedTb (bldD m)) := by
  have fG : ∀ G, F.le G → C0 Try.prog 19 [m.v ga gc ha hc] G (.bool (decide m.good)) := fun G hl => rGood_C G m ga ha gc hc (hga.le hl) (hha.le hl)
  unfold Met.v
  refine C.go hT Try.func17 Try.ntmps17 ?_
  refine sq ?_
  refine rg ?_
  refine bx (hL := by simp [ntL, ntV, nt2, argL, nt1_i, nt1_b, hga.pl.nt, hha.pl.nt]) ?_
  refine JL.flat (m.pl hga.pl hha.pl gc hc) ?_
  iterate 2 (refine st (h := O) ?_)
  refine nl ?_
  iterate 2 (refine sq ?_)
  refine rg ?_
  refine st (h := sdLN) ?_
  refine cl (h := by exact fun ι hV hl => (fG _ hl).ofR (arg1 (m.rV hga.pl hha.pl gc hc ι))) ?_
  refine st (h := O) ?_
  refine nl ?_
  refine cB (fun c0 => ?_) (fun c0 => ?_)
  · refine sq ?_
    refine rg ?_
    iterate 2 (refine st (h := O) ?_)
    refine nl ?_
    exact rt (RedTb.no (if_neg (by simpa using c0)))
  · have hgood : m.good := by simpa using c0
    have hpre := hgood.1.1
    have hbox := hgood.1.2
    have hgl := hgood.2
    unfold Met.pre sm at hpre
    have hok : bldD m = some (tbsM m) := if_pos hgood
    have k0 : i64ok (m.box 0) := by have := hbox 0 (by omega); unfold sm at this; unfold i64ok; omega
    have k1 : i64ok (m.box 1) := by have := hbox 1 (by omega); unfold sm at this; unfold i64ok; omega
    have k2 : i64ok (m.box 2) := by have := hbox 2 (by omega); unfold sm at this; unfold i64ok; omega
    have k3 : i64ok (m.box 3) := by have := hbox 3 (by omega); unfold sm at this; unfold i64ok; omega
    have ku : i64ok m.up := by unfold i64ok; omega
    have ka : i64ok m.asc := by unfold i64ok; omega
    have kd : i64ok m.desc := by unfold i64ok; omega
    have kg : i64ok m.gap := by unfold i64ok; omega
    have kn : i64ok (m.adv.length : Int) := by unfold i64ok; omega
    refine sk ?_
    refine sq ?_
    refine rg ?_
    refine st (h := O) ?_
    refine nl ?_
    iterate 2 (refine sq ?_)
    refine rg ?_
    refine st (h := sdFA) ?_
    refine st (h := sdL) ?_
    refine nl ?_
    refine J.cut1 (α := Int) (fun q => q = lgI m.long) (fun q => [(4, .int .i64 q)]) [(1, _)] (fun q => []) [(1, _)] (by exact ⟨rfl, trivial⟩) (by exact ⟨rfl, rfl, trivial⟩) ?_ ?_
    · refine cB (fun c1 => ?_) (fun c1 => ?_)
      · refine rg ?_
        refine st (h := O) ?_
        refine nl ?_
        refine ck1 (_) (by exact ⟨rfl, trivial⟩) (by exact ⟨rfl, trivial⟩) (by exact ⟨rfl, rfl, trivial⟩) ?_
        rw [c1]; rfl
      · refine sk ?_
        refine ck1 (_) (by exact ⟨rfl, trivial⟩) (by exact ⟨rfl, trivial⟩) (by exact ⟨rfl, rfl, trivial⟩) ?_
        rw [c1]; rfl
    · intro q L1 K1 e1 e2 hI
      dsimp only [List.cons_append, List.nil_append] at e1 e2
      subst e1 e2
      refine sq ?_
      have kq : i64ok q := by rw [hI]; unfold lgI i64ok; split <;> omega
      refine dr 41 [1] [5, 6, 11, 12, 13, 16, 17, 18, 21, 22, 23, 26, 27, 28, 35, 1000, 1, 2, 1003, 4, 1007, 8, 1009, 10, 1014, 15, 1019, 20, 1024, 25, 1029, 30, 1031, 32, 1033, 34, 1036, 37, 1038, 39, 40] ?_
      refine dt (hv := by exact sdFA) ?_
      refine dt (hv := by exact sdL) ?_
      refine dt (hv := by exact sdFA) ?_
      refine dt (hv := by exact (sdXA (z := 1))) ?_
      refine dt (hv := by exact sdL) ?_
      refine dt (hv := by exact sdFA) ?_
      refine dt (hv := by exact (sdXA (z := 1))) ?_
      refine dt (hv := by exact sdL) ?_
      refine dt (hv := by exact sdFA) ?_
      refine dt (hv := by exact (sdXA (z := 1))) ?_
      refine dt (hv := by exact sdL) ?_
      refine dt (hv := by exact sdFA) ?_
      refine dt (hv := by exact (sdXA (z := 1))) ?_
      refine dt (hv := by exact sdL) ?_
      refine dt (hv := by exact O) ?_
      refine dcl (hkp := by first | exact Kept.all | exact Kept.k0 | exact Kept.kY | exact Kept.kYY | exact Kept.kY3) (h := by exact fun ι hV hl => zeros_C _ 4 (by omega) (by omega)) ?_
      refine dt (hv := by exact sdCt (a := tx [0, 1, 0, 0, 0, 1, 0, 0])) ?_
      refine dt (hv := by exact sdCt (b := tx [95, 15, 60, 245])) ?_
      refine dcl (hkp := by first | exact Kept.all | exact Kept.k0 | exact Kept.kY | exact Kept.kYY | exact Kept.kY3) (h := by exact fun ι hV hl => zeros_C _ 2 (by omega) (by omega)) ?_
      refine dt (hv := by exact sdCt) ?_
      refine dcl (hkp := by first | exact Kept.all | exact Kept.k0 | exact Kept.kY | exact Kept.kYY | exact Kept.kY3) (h := by exact fun ι hV hl => rTwo9_C _ _ ku) ?_
      refine dt (hv := by exact sdCt) ?_
      refine dcl (hkp := by first | exact Kept.all | exact Kept.k0 | exact Kept.kY | exact Kept.kYY | exact Kept.kY3) (h := by exact fun ι hV hl => zeros_C _ 16 (by omega) (by omega)) ?_
      refine dt (hv := by exact sdCt) ?_
      refine dcl (hkp := by first | exact Kept.all | exact Kept.k0 | exact Kept.kY | exact Kept.kYY | exact Kept.kY3) (h := by exact fun ι hV hl => rTwo9_C _ _ k0) ?_
      refine dt (hv := by exact sdCt) ?_
      refine dcl (hkp := by first | exact Kept.all | exact Kept.k0 | exact Kept.kY | exact Kept.kYY | exact Kept.kY3) (h := by exact fun ι hV hl => rTwo9_C _ _ k1) ?_
      refine dt (hv := by exact sdCt) ?_
      refine dcl (hkp := by first | exact Kept.all | exact Kept.k0 | exact Kept.kY | exact Kept.kYY | exact Kept.kY3) (h := by exact fun ι hV hl => rTwo9_C _ _ k2) ?_
      refine dt (hv := by exact sdCt) ?_
      refine dcl (hkp := by first | exact Kept.all | exact Kept.k0 | exact Kept.kY | exact Kept.kYY | exact Kept.kY3) (h := by exact fun ι hV hl => rTwo9_C _ _ k3) ?_
      refine dt (hv := by exact sdCt) ?_
      refine dcl (hkp := by first | exact Kept.all | exact Kept.k0 | exact Kept.kY | exact Kept.kYY | exact Kept.kY3) (h := by exact fun ι hV hl => zeros_C _ 4 (by omega) (by omega)) ?_
      refine dt (hv := by exact sdCt) ?_
      refine dcl (hkp := by first | exact Kept.all | exact Kept.k0 | exact Kept.kY | exact Kept.kYY | exact Kept.kY3) (h := by exact fun ι hV hl => rTwo9_C _ 2 (by unfold i64ok; omega)) ?_
      refine dt (hv := by exact sdCt) ?_
      refine dcl (hkp := by first | exact Kept.all | exact Kept.k0 | exact Kept.kY | exact Kept.kYY | exact Kept.kY3) (h := by exact fun ι hV hl => rTwo9_C _ _ kq) ?_
      refine dt (hv := by exact sdCt) ?_
      refine dcl (hkp := by first | exact Kept.all | exact Kept.k0 | exact Kept.kY | exact Kept.kYY | exact Kept.kY3) (h := by exact fun ι hV hl => zeros_C _ 2 (by omega) (by omega)) ?_
      refine dt (hv := by exact sdCt) ?_
      refine dt (hv := by exact O) ?_
      refine dn ?_
      refine sq ?_
      have e5 : tx [0, 1, 0, 0, 0, 1, 0, 0] ++ tx (List.replicate (Int.toNat 4) 0) ++ tx [95, 15, 60, 245] ++ tx (List.replicate (Int.toNat 2) 0) ++ tx [hiB m.up, loB m.up] ++ tx (List.replicate (Int.toNat 16) 0) ++ tx [hiB (m.box 0), loB (m.box 0)] ++ tx [hiB (m.box 1), loB (m.box 1)] ++ tx [hiB (m.box 2), loB (m.box 2)] ++ tx [hiB (m.box 3), loB (m.box 3)] ++ tx (List.replicate (Int.toNat 4) 0) ++ tx [hiB 2, loB 2] ++ tx [hiB q, loB q] ++ tx (List.replicate (Int.toNat 2) 0) = tx (headN m) := by
        simp only [headN, tx_append, tb2, zz, hI]
        rfl
      rw [e5]
      clear e5
      refine rg ?_
      refine st (h := O) ?_
      refine nl ?_
      refine sq ?_
      refine rg ?_
      refine st (h := O) ?_
      refine nl ?_
      iterate 2 (refine sq ?_)
      refine rg ?_
      refine st (h := O) ?_
      refine nl ?_
      refine bl ?_
      refine J.loop5 (α := Option Nat) (β := Nat) (γ := Nat) (δ := List Value) (ε := Int) (fun o n k ca x => k ≤ m.adv.length ∧ n = 4 * k ∧ apB o n ∧ ca = bvs (hmtxN m k) ∧ x = mx0 m.adv k) (fun o n k ca x => [(6, .int .i64 x), (7, apV 500002 o n), (8, .int .i64 k)]) [(1, _), (5, _)] (fun o n k ca x => apR 500002 5 1 true o ca ++ []) [(1, _)] (fun o n k ca x => m.adv.length - k) (none) (0) (0) ([]) (0) (by exact ⟨rfl, rfl, rfl, trivial⟩) (by exact ⟨rfl, rfl, trivial⟩) (by exact (by repeat' first | exact trivial | refine And.intro rfl ?_)) ?_ ?_
      · exact ⟨Nat.zero_le _, rfl, rfl, rfl, rfl⟩
      · intro o n k ca x L1 K1 e1 e2 hI
        rcases o with _ | cap_o
        all_goals
          dsimp only [apV, apR, List.cons_append, List.nil_append] at e1 e2
          subst e1 e2
          obtain ⟨hk, hn, hap, hca, hx⟩ := hI
          simp only [apB] at hap
          iterate 2 (refine sq ?_)
          refine rg ?_
          refine st (h := O) ?_
          refine st (h := sdFA) ?_
          refine st (h := sdL) ?_
          iterate 2 (refine st (h := O) ?_)
          refine nl ?_
          refine cD (fun c2 => ?_) (fun c2 => ?_)
          · have hkl : k < m.adv.length := by omega
            have hcl : ca.length = 4 * k := by rw [hca, bvs_length, hmtxN_length]
            obtain ⟨ab, ao, rfl, har⟩ := hga.rd (by omega)
            obtain ⟨bb, bo, rfl, hbr⟩ := hha.rd (by omega)
            have q1 : look F ⟨ab, ao + (k : Int).toNat * 1, none⟩ = some (.int .i64 (ints m.adv k)) := by rw [Nat.mul_one]; exact har k _ (ints_get hkl)
            have q2 : look F ⟨bb, bo + (k : Int).toNat * 1, none⟩ = some (.int .i64 (ints m.bear k)) := by rw [Nat.mul_one]; exact hbr k _ (ints_get (by omega))
            have hj := hgl k hkl
            unfold Met.ok sm at hj
            have ka' : i64ok (ints m.adv k) := by unfold i64ok; omega
            have kb' : i64ok (ints m.bear k) := by unfold i64ok; omega
            refine sk ?_
            refine sq ?_
            refine bl ?_
            refine sq ?_
            refine rg ?_
            refine st (h := O) ?_
            refine st (h := sdFA) ?_
            refine st (h := sdL) ?_
            refine st (h := O) ?_
            refine st (h := (sdX (z := 1))) ?_
            refine st (h := (by first | exact sdLG | exact sdW)) ?_
            iterate 2 (refine st (h := O) ?_)
            refine nl ?_
            refine sq ?_
            refine rg ?_
            refine st (h := O) ?_
            refine st (h := sdFA) ?_
            refine st (h := sdL) ?_
            refine st (h := O) ?_
            refine st (h := (sdX (z := 1))) ?_
            refine st (h := (by first | exact sdLG | exact sdW)) ?_
            refine cl (h := by exact fun ι hV hl => rTwo9_C _ _ ka') ?_
            first
              | refine apN 500002 true [(1, _), (5, _), (6, _), (8, _)] [(1, _)] ?_ (happ := by exact appTx2 _)
              | refine apO 501002 500002 [(1, _), (5, _), (6, _), (8, _)] [(1, _)] ?_ (happ := by exact appTx2 _) (hol := by show ca.length = _ * 1; omega)
            intro cap1 hc1 hd1
            refine st (h := O) ?_
            refine nl ?_
            refine rg ?_
            refine st (h := O) ?_
            refine st (h := sdFA) ?_
            refine st (h := sdL) ?_
            refine st (h := O) ?_
            refine st (h := (sdX (z := 1))) ?_
            refine st (h := (by first | exact sdLG | exact sdW)) ?_
            refine cl (h := by exact fun ι hV hl => rTwo9_C _ _ kb') ?_
            refine apO 501003 500002 [(1, _), (5, _), (6, _), (8, _)] [(1, _)] ?_ (happ := by exact appTx2 _) (hol := by simp [bvs_length, hcl]; try omega)
            intro cap2 hc2 hd2
            refine st (h := O) ?_
            refine nl ?_
            refine bk ?_
            refine rg ?_
            refine st (h := O) ?_
            refine st (h := sdA) ?_
            refine st (h := O) ?_
            refine nl ?_
            refine bk5 (some _) (_) (k + 1) (_) (_) (by exact ⟨rfl, rfl, rfl, trivial⟩) (by exact ⟨rfl, rfl, trivial⟩) (by exact (by repeat' first | exact trivial | refine And.intro rfl ?_)) ?_ ?_
            · omega
            · refine ⟨by omega, by omega, by unfold apB; omega, ?_, by rw [hx]; rfl⟩
              first
                | (rw [hmtxN, bvs_append, bvs_append, ← List.append_assoc, ← hca]; rfl)
                | (obtain rfl : k = 0 := by omega
                   rfl)
          · try (exfalso; omega)
            all_goals
              obtain rfl : k = m.adv.length := by omega
              have hxb := mx0_bd m.adv.length fun j hj => ⟨(hgl j hj).1, (hgl j hj).2.1⟩
              rw [← hx] at hxb
              have kx : i64ok x := by unfold i64ok; omega
              have exx : x = mx m.adv (m.adv.length - 1) := by
                rw [hx, ← mx0_eq (hgl 0 (by omega)).1, Nat.sub_add_cancel (by omega)]
              refine ex ?_
              refine sq ?_
              refine dr 23 [1, 500002] [0, 1, 4, 5, 8, 9, 12, 17, 18, 19, 1002, 3, 1006, 7, 1010, 11, 1013, 14, 1015, 16, 1020, 21, 22] ?_
              refine dt (hv := by exact sdFA) ?_
              refine dt (hv := by exact sdL) ?_
              refine dt (hv := by exact sdFA) ?_
              refine dt (hv := by exact sdL) ?_
              refine dt (hv := by exact sdFA) ?_
              refine dt (hv := by exact sdL) ?_
              refine dt (hv := by exact O) ?_
              refine dt (hv := by exact sdFA) ?_
              refine dt (hv := by exact sdL) ?_
              refine dt (hv := by exact O) ?_
              refine dcl (hkp := by first | exact Kept.all | exact Kept.k0 | exact Kept.kY | exact Kept.kYY | exact Kept.kY3) (h := by exact fun ι hV hl => rTwo9_C _ _ ka) ?_
              refine dt (hv := by exact sdCt (a := tx [0, 1, 0, 0])) ?_
              refine dcl (hkp := by first | exact Kept.all | exact Kept.k0 | exact Kept.kY | exact Kept.kYY | exact Kept.kY3) (h := by exact fun ι hV hl => rTwo9_C _ _ kd) ?_
              refine dt (hv := by exact sdCt) ?_
              refine dcl (hkp := by first | exact Kept.all | exact Kept.k0 | exact Kept.kY | exact Kept.kYY | exact Kept.kY3) (h := by exact fun ι hV hl => rTwo9_C _ _ kg) ?_
              refine dt (hv := by exact sdCt) ?_
              refine dcl (hkp := by first | exact Kept.all | exact Kept.k0 | exact Kept.kY | exact Kept.kYY | exact Kept.kY3) (h := by exact fun ι hV hl => rTwo9_C _ _ kx) ?_
              refine dt (hv := by exact sdCt) ?_
              refine dcl (hkp := by first | exact Kept.all | exact Kept.k0 | exact Kept.kY | exact Kept.kYY | exact Kept.kY3) (h := by exact fun ι hV hl => zeros_C _ 22 (by omega) (by omega)) ?_
              refine dt (hv := by exact sdCt) ?_
              refine dcl (hkp := by first | exact Kept.all | exact Kept.k0 | exact Kept.kY | exact Kept.kYY | exact Kept.kY3) (h := by exact fun ι hV hl => rTwo9_C _ _ kn) ?_
              refine dt (hv := by exact sdCt) ?_
              refine dt (hv := by exact O) ?_
              refine dn ?_
              refine sq ?_
              first | refine J.weak (L0 := [(1, _), (5, _), (7, _), (9, _)]) (K0 := [(1, _), (500002, _)]) (by exact ⟨rfl, rfl, rfl, rfl, trivial⟩) (by exact ⟨rfl, rfl, rfl, rfl, trivial⟩) ?_ | refine J.weak (L0 := [(1, _), (5, _), (7, _), (9, _)]) (K0 := [(1, _)]) (by exact ⟨rfl, rfl, rfl, rfl, trivial⟩) (by exact ⟨rfl, rfl, trivial⟩) ?_
              refine rg ?_
              refine st (h := sdFA) ?_
              refine st (h := sdL) ?_
              refine st (h := O) ?_
              refine cl (h := by exact fun ι hV hl => rTwo9_C _ _ kn) ?_
              refine st (h := sdCt (a := tx [0, 1, 0, 0])) ?_
              refine cl (h := by exact fun ι hV hl => zeros_C _ 8 (by omega) (by omega)) ?_
              refine st (h := sdCt) ?_
              refine cl (h := by exact fun ι hV hl => rTwo9_C _ 2 (by unfold i64ok; omega)) ?_
              refine st (h := sdCt) ?_
              refine cl (h := by exact fun ι hV hl => zeros_C _ 16 (by omega) (by omega)) ?_
              refine st (h := sdCt) ?_
              refine st (h := O) ?_
              refine nl ?_
              refine sq ?_
              first | refine J.weak (L0 := [(5, _), (7, _), (9, _), (10, _)]) (K0 := [(1, _), (500002, _)]) (by exact ⟨rfl, rfl, rfl, rfl, trivial⟩) (by exact ⟨rfl, rfl, rfl, rfl, trivial⟩) ?_ | refine J.weak (L0 := [(5, _), (7, _), (9, _), (10, _)]) (K0 := [(1, _)]) (by exact ⟨rfl, rfl, rfl, rfl, trivial⟩) (by exact ⟨rfl, rfl, trivial⟩) ?_
              refine rg ?_
              iterate 5 (refine st (h := O) ?_)
              refine st (h := sdTx (ns := hmtxN m m.adv.length) (hcs := by exact hca) (hn := by rw [hmtxN_length]; omega)) ?_
              iterate 3 (refine st (h := O) ?_)
              refine sl ?_
              iterate 2 (refine st (h := O) ?_)
              refine nl ?_
              refine rtX fun ι hV => ?_
              rw [hok]
              refine ⟨ι 128, rfl, fun G hG => kTb_row (l := tbsM m) hG (List.mem_map.2 ⟨_, List.mem_cons_self, rfl⟩) ?_ (Nat.le_of_ble_eq_true rfl)⟩
              have e9 : tx [0, 1, 0, 0] ++ tx [hiB m.asc, loB m.asc] ++ tx [hiB m.desc, loB m.desc] ++ tx [hiB m.gap, loB m.gap] ++ tx [hiB x, loB x] ++ tx (List.replicate (Int.toNat 22) 0) ++ tx [hiB ↑m.adv.length, loB ↑m.adv.length] = tx (hheaN m) := by
                simp only [hheaN, tx_append, tb2, zz, ← exx]
                rfl
              have e10 : tx [0, 1, 0, 0] ++ tx [hiB ↑m.adv.length, loB ↑m.adv.length] ++ tx (List.replicate (Int.toNat 8) 0) ++ tx [hiB 2, loB 2] ++ tx (List.replicate (Int.toNat 16) 0) = tx (maxpN m) := by
                simp only [maxpN, tx_append, tb2, zz]
                rfl
              rw [e9, e10]
              rfl

end Go.Proofs.Ytfcckfiipbdnkaa.Am
namespace Go.Proofs.Ytfcckfiipbdnkaa.Am
set_option linter.unusedSimpArgs false
set_option linter.unusedVariables false
set_option maxRecDepth 100000
set_option maxHeartbeats 4000000
open Go Go.RowKit
theorem setAtD (F : Mem) (u : Nat) (ms : List Int) (at' x : Int) (n c room : Nat) (el : TypeId) (fz : Bool) (hx : i64ok x) (h0 : 0 ≤ at' := by omega) (h1 : at' + 1 < n := by omega) (h2 : n = ms.length := by first | (simp only [putI_length, List.length_replicate]; done) | (simp only [putI_length, List.length_replicate]; omega) | omega) (h3 : ms.length ≤ 140737488355328 := by (try simp only [putI_length, List.length_replicate]); omega) : CA Try.prog [u] [u] 31 [.slice (some ⟨u, 0, some 0⟩) n c, .int .i64 at', .int .i64 x] F [(u, { elem := el, cs := bvs ms, room := room, fz := fz, flat := true })] (fun v Y K' => v = .tuple #[] ∧ Y = [] ∧ K' = [(u, { elem := el, cs := bvs (putI ms at'.toNat [hiB x, loB x]), room := room, fz := fz, flat := true })]) :=
  setAt F u ms at' x n c room el fz h0 h1 h2 h3 hx
theorem zz_length (n : Nat) : (zz n).length = n := List.length_replicate
theorem put2 {A : List Int} {j o : Nat} {x : Int} (h : A.length = o) (hj : 2 ≤ j) : putI (A ++ zz j) o [hiB x, loB x] = A ++ tb2 x ++ zz (j - 2) := by
  obtain ⟨i, rfl⟩ : ∃ i, j = i + 2 := ⟨j - 2, by omega⟩
  rw [putI_app _ _ _ _ h, List.append_assoc]
  rfl
/-- head, while the box is put in -/
def hd0 (m : Met) : Nat → List Int
  | 0 => putI (putI (putI (putI (List.replicate 54 0) 0 [0, 1, 0, 0]) 4 [0, 1, 0, 0]) 12 [95, 15, 60, 245]) 18 [hiB m.up, loB m.up]
  | k + 1 => putI (hd0 m k) (36 + 2 * k) [hiB (m.box k), loB (m.box k)]
theorem hd0_length (m : Met) : ∀ k, (hd0 m k).length = 54
  | 0 => by simp only [hd0, putI_length, List.length_replicate]
  | k + 1 => by rw [hd0, putI_length, hd0_length m k]
theorem mBuild_C (F : Mem) (m : Met) (ga ha : Option Addr) (gc hc : Nat) (hga : RIx F ga m.adv) (hha : RIx F ha m.bear) : C Try.prog 16 [m.v ga gc ha hc] F (RedTb (bldD m)) := by
  have fG : ∀ G, F.le G → C0 Try.prog 18 [m.v ga gc ha hc] G (.bool (decide m.good)) := fun G hl => mGood_C G m ga ha gc hc (hga.le hl) (hha.le hl)
  unfold Met.v
  refine C.go hT Try.func16 Try.ntmps16 ?_
  refine sq ?_
  refine rg ?_
  refine bx (hL := by simp [ntL, ntV, nt2, argL, nt1_i, nt1_b, hga.pl.nt, hha.pl.nt]) ?_
  refine JL.flat (m.pl hga.pl hha.pl gc hc) ?_
  iterate 2 (refine st (h := O) ?_)
  refine nl ?_
  iterate 2 (refine sq ?_)
  refine rg ?_
  refine st (h := sdLN) ?_
  refine cl (h := by exact fun ι hV hl => (fG _ hl).ofR (arg1 (m.rV hga.pl hha.pl gc hc ι))) ?_
  refine st (h := O) ?_
  refine nl ?_
  refine cB (fun c0 => ?_) (fun c0 => ?_)
  · refine sq ?_
    refine rg ?_
    iterate 2 (refine st (h := O) ?_)
    refine nl ?_
    exact rt (RedTb.no (if_neg (by simpa using c0)))
  · have hgood : m.good := by simpa using c0
    have hpre := hgood.1.1
    have hbox := hgood.1.2
    have hgl := hgood.2
    unfold Met.pre sm at hpre
    have hok : bldD m = some (tbsM m) := if_pos hgood
    have ku : i64ok m.up := by unfold i64ok; omega
    have ka : i64ok m.asc := by unfold i64ok; omega
    have kd : i64ok m.desc := by unfold i64ok; omega
    have kg : i64ok m.gap := by unfold i64ok; omega
    have kn : i64ok (m.adv.length : Int) := by unfold i64ok; omega
    have k2 : i64ok 2 := by unfold i64ok; omega
    have k1 : i64ok 1 := by unfold i64ok; omega
    have hxb := mx0_bd m.adv.length fun j hj => ⟨(hgl j hj).1, (hgl j hj).2.1⟩
    have exx : mx0 m.adv m.adv.length = mx m.adv (m.adv.length - 1) := by rw [← mx0_eq (hgl 0 (by omega)).1, Nat.sub_add_cancel (by omega)]
    rw [exx] at hxb
    have kx : i64ok (mx m.adv (m.adv.length - 1)) := by unfold i64ok; omega
    refine sk ?_
    refine sq ?_
    refine rg ?_
    refine st (h := sdFA) ?_
    refine st (h := sdL) ?_
    iterate 2 (refine st (h := O) ?_)
    refine nl ?_
    refine sq ?_
    refine J.weak (L0 := [(1, _), (4, _)]) (K0 := [(1, _)]) (by exact ⟨rfl, rfl, trivial⟩) (by exact ⟨rfl, rfl, trivial⟩) ?_
    refine rg ?_
    refine mkB ?_
    refine st (h := O) ?_
    refine nl ?_
    refine sq ?_
    refine rg ?_
    refine st (h := O) ?_
    refine cpB (sv := ⟨#[0, 1, 0, 0]⟩) [0, 1, 0, 0] ?_
    refine nl ?_
    refine sq ?_
    refine rg ?_
    refine st (h := O) ?_
    refine st (h := sdCutB 4) ?_
    refine cpB (sv := ⟨#[0, 1, 0, 0]⟩) [0, 1, 0, 0] ?_
    refine nl ?_
    refine sq ?_
    refine rg ?_
    refine st (h := O) ?_
    refine st (h := sdCutB 12) ?_
    refine cpB (sv := ⟨#[95, 15, 60, 245]⟩) [95, 15, 60, 245] ?_
    refine nl ?_
    refine sq ?_
    refine rg ?_
    refine st (h := O) ?_
    refine st (h := sdFA) ?_
    refine st (h := sdL) ?_
    refine clA [18] [18] [18, 1] [(1, _), (4, _), (5, _)] [(18, _)] [(1, _)] (h := by exact fun ι hV hl => setAtD _ 18 _ 18 _ _ _ _ _ _ ku) ?_
    intro v1 Y1 K1 hQ1 hp1 hN1
    obtain ⟨rfl, rfl, rfl⟩ := hQ1
    refine nl ?_
    iterate 2 (refine sq ?_)
    refine rg ?_
    refine st (h := sdFA) ?_
    refine st (h := sdLN (cs := gI m.box 4)) ?_
    refine st (h := O) ?_
    refine nl ?_
    refine bl ?_
    refine J.loop1 (α := Nat) (fun k => k ≤ 4) (fun k => [(33, .int .i64 k)]) [(1, _), (4, _), (5, _), (32, _)] (fun k => [(18, { elem := 5, cs := bvs (hd0 m k), room := 54, fz := false, flat := true })]) [(1, _)] (fun k => 4 - k) (0) (by exact ⟨rfl, trivial⟩) (by exact ⟨rfl, rfl, rfl, rfl, trivial⟩) (by exact ⟨rfl, rfl, rfl, rfl, trivial⟩) ?_ ?_
    · exact Nat.zero_le _
    · intro k L1 K1 e1 e2 hI
      dsimp only [apV, apR, List.cons_append, List.nil_append] at e1 e2
      subst e1 e2
      refine sq ?_
      refine rg ?_
      refine st (h := O) ?_
      refine nl ?_
      refine sq ?_
      refine cD (fun c1 => ?_) (fun c1 => ?_)
      · have hk4 : k < 4 := by omega
        have kb : i64ok (m.box k) := by have := hbox k hk4; unfold sm at this; unfold i64ok; omega
        refine sk ?_
        refine sq ?_
        refine bl ?_
        refine sq ?_
        refine rg ?_
        refine st (h := O) ?_
        refine st (h := sdXG) ?_
        iterate 2 (refine st (h := O) ?_)
        refine nl ?_
        refine rg ?_
        iterate 2 (refine st (h := O) ?_)
        refine st (h := sdM) ?_
        refine st (h := sdA) ?_
        refine st (h := O) ?_
        refine clA [18] [18] [18, 1] [(1, _), (4, _), (5, _), (32, _), (33, _)] [(18, _)] [(1, _)] (h := by exact fun ι hV hl => setAtD _ 18 (hd0 m k) (36 + 2 * k) _ _ _ _ _ _ kb (h2 := (hd0_length m k).symm) (h3 := by rw [hd0_length]; omega)) ?_
        intro v2 Y2 K2 hQ2 hp2 hN2
        obtain ⟨rfl, rfl, rfl⟩ := hQ2
        rw [show (36 + 2 * (k : Int)).toNat = 36 + 2 * k from by omega]
        refine nl ?_
        refine bk ?_
        refine rg ?_
        refine st (h := sdA) ?_
        refine st (h := O) ?_
        refine nl ?_
        refine bk1 (k + 1) (by exact ⟨rfl, trivial⟩) (by exact ⟨rfl, rfl, rfl, rfl, trivial⟩) (by exact ⟨rfl, rfl, rfl, rfl, trivial⟩) ?_ ?_
        · omega
        · omega
      · obtain rfl : k = 4 := by omega
        refine ex ?_
        refine sq ?_
        refine rg ?_
        refine st (h := O) ?_
        refine clA [18] [18] [18, 1] [(1, _), (4, _), (5, _)] [(18, _)] [(1, _)] (h := by exact fun ι hV hl => setAtD _ 18 (hd0 m 4) 48 2 _ _ _ _ _ k2 (h2 := (hd0_length m 4).symm) (h3 := by rw [hd0_length]; omega)) ?_
        intro v3 Y3 K3 hQ3 hp3 hN3
        obtain ⟨rfl, rfl, rfl⟩ := hQ3
        refine nl ?_
        iterate 2 (refine sq ?_)
        refine rg ?_
        refine st (h := sdFA) ?_
        refine st (h := sdL) ?_
        refine nl ?_
        refine J.cut1 (α := List Int) (fun ms => ms = if m.long then putI (putI (hd0 m 4) 48 [hiB 2, loB 2]) 50 [hiB 1, loB 1] else putI (hd0 m 4) 48 [hiB 2, loB 2]) (fun ms => []) [(1, _), (4, _), (5, _)] (fun ms => [(18, { elem := 5, cs := bvs ms, room := 54, fz := false, flat := true })]) [(1, _)] (by exact ⟨rfl, rfl, rfl, trivial⟩) (by exact ⟨rfl, rfl, trivial⟩) ?_ ?_
        · refine cB (fun c2 => ?_) (fun c2 => ?_)
          · refine rg ?_
            refine st (h := O) ?_
            refine clA [18] [18] [18, 1] [(1, _), (4, _), (5, _)] [(18, _)] [(1, _)] (h := by exact fun ι hV hl => setAtD _ 18 (putI (hd0 m 4) 48 [hiB 2, loB 2]) 50 1 _ _ _ _ _ k1 (h2 := by rw [putI_length, hd0_length]; rfl) (h3 := by rw [putI_length, hd0_length]; omega)) ?_
            intro v4 Y4 K4 hQ4 hp4 hN4
            obtain ⟨rfl, rfl, rfl⟩ := hQ4
            refine nl ?_
            refine ck1 (_) (by exact trivial) (by exact ⟨rfl, rfl, rfl, trivial⟩) (by exact ⟨rfl, rfl, rfl, rfl, trivial⟩) ?_
            rw [c2]; rfl
          · refine sk ?_
            refine ck1 (_) (by exact trivial) (by exact ⟨rfl, rfl, rfl, trivial⟩) (by exact ⟨rfl, rfl, rfl, rfl, trivial⟩) ?_
            rw [c2]; rfl
        · intro ms L1 K1 e1 e2 hI
          dsimp only [List.cons_append, List.nil_append] at e1 e2
          subst e1 e2
          have hms := hI
          refine sq ?_
          refine J.weak (L0 := [(1, _), (4, _), (5, _)]) (K0 := [(18, _), (1, _)]) (by exact ⟨rfl, rfl, rfl, trivial⟩) (by exact ⟨rfl, rfl, rfl, rfl, trivial⟩) ?_
          refine rg ?_
          refine mkB ?_
          refine st (h := O) ?_
          refine nl ?_
          refine sq ?_
          refine rg ?_
          refine st (h := O) ?_
          refine cpB (sv := ⟨#[0, 1, 0, 0]⟩) [0, 1, 0, 0] ?_
          refine nl ?_
          refine sq ?_
          refine rg ?_
          refine st (h := O) ?_
          refine st (h := sdFA) ?_
          refine st (h := sdL) ?_
          refine clA [50] [50] [50, 18, 1] [(1, _), (4, _), (5, _), (8, _)] [(50, _)] [(18, _), (1, _)] (h := by exact fun ι hV hl => setAtD _ 50 _ 4 _ _ _ _ _ _ ka) ?_
          intro v5 Y5 K5 hQ5 hp5 hN5
          obtain ⟨rfl, rfl, rfl⟩ := hQ5
          refine nl ?_
          refine sq ?_
          refine rg ?_
          refine st (h := O) ?_
          refine st (h := sdFA) ?_
          refine st (h := sdL) ?_
          refine clA [50] [50] [50, 18, 1] [(1, _), (4, _), (5, _), (8, _)] [(50, _)] [(18, _), (1, _)] (h := by exact fun ι hV hl => setAtD _ 50 _ 6 _ _ _ _ _ _ kd) ?_
          intro v6 Y6 K6 hQ6 hp6 hN6
          obtain ⟨rfl, rfl, rfl⟩ := hQ6
          refine nl ?_
          refine sq ?_
          refine rg ?_
          refine st (h := O) ?_
          refine st (h := sdFA) ?_
          refine st (h := sdL) ?_
          refine clA [50] [50] [50, 18, 1] [(1, _), (4, _), (5, _), (8, _)] [(50, _)] [(18, _), (1, _)] (h := by exact fun ι hV hl => setAtD _ 50 _ 8 _ _ _ _ _ _ kg) ?_
          intro v7 Y7 K7 hQ7 hp7 hN7
          obtain ⟨rfl, rfl, rfl⟩ := hQ7
          refine nl ?_
          refine sq ?_
          refine rg ?_
          refine st (h := O) ?_
          refine st (h := sdFA) ?_
          refine st (h := sdL) ?_
          refine cl (h := by exact fun ι hV hl => (max_C _ ga gc m.adv (hga.le hl) (by omega)).ofR (arg1 (hga.pl.rV ι _ _))) ?_
          refine clA [50] [50] [50, 18, 1] [(1, _), (4, _), (5, _), (8, _)] [(50, _)] [(18, _), (1, _)] (h := by exact fun ι hV hl => setAtD _ 50 _ 10 _ _ _ _ _ _ kx) ?_
          intro v8 Y8 K8 hQ8 hp8 hN8
          obtain ⟨rfl, rfl, rfl⟩ := hQ8
          refine nl ?_
          refine sq ?_
          refine rg ?_
          iterate 2 (refine st (h := O) ?_)
          refine clA [50] [50] [50, 18, 1] [(1, _), (4, _), (5, _), (8, _)] [(50, _)] [(18, _), (1, _)] (h := by exact fun ι hV hl => setAtD _ 50 _ 34 _ _ _ _ _ _ kn) ?_
          intro v9 Y9 K9 hQ9 hp9 hN9
          obtain ⟨rfl, rfl, rfl⟩ := hQ9
          refine nl ?_
          refine sq ?_
          refine J.weak (L0 := [(1, _), (4, _), (5, _), (8, _)]) (K0 := [(50, _), (18, _), (1, _)]) (by exact ⟨rfl, rfl, rfl, rfl, trivial⟩) (by exact ⟨rfl, rfl, rfl, rfl, rfl, rfl, trivial⟩) ?_
          refine rg ?_
          refine st (h := O) ?_
          refine st (h := sdM) ?_
          refine mkB ?_
          refine st (h := O) ?_
          refine nl ?_
          iterate 2 (refine sq ?_)
          refine rg ?_
          iterate 2 (refine st (h := O) ?_)
          refine nl ?_
          refine bl ?_
          refine J.loop1 (α := Nat) (fun k => k ≤ m.adv.length) (fun k => [(77, .int .i64 k)]) [(1, _), (4, _), (5, _), (8, _), (9, _), (76, _)] (fun k => [(75, { elem := 5, cs := bvs (hmtxN m k ++ zz (4 * (m.adv.length - k))), room := 4 * m.adv.length, fz := false, flat := true })]) [(50, _), (18, _), (1, _)] (fun k => m.adv.length - k) (0) (by exact ⟨rfl, trivial⟩) (by exact ⟨rfl, rfl, rfl, rfl, rfl, rfl, trivial⟩) (by exact ⟨rfl, rfl, rfl, rfl, rfl, rfl, rfl, rfl, trivial⟩) ?_ ?_
          · exact Nat.zero_le _
          · intro k L1 K1 e1 e2 hI
            dsimp only [apV, apR, List.cons_append, List.nil_append] at e1 e2
            subst e1 e2
            refine sq ?_
            refine rg ?_
            refine st (h := O) ?_
            refine nl ?_
            refine sq ?_
            refine cD (fun c3 => ?_) (fun c3 => ?_)
            · have hkl : k < m.adv.length := by omega
              obtain ⟨ab, ao, rfl, har⟩ := hga.rd (by omega)
              obtain ⟨bb, bo, rfl, hbr⟩ := hha.rd (by omega)
              have q1 : look F ⟨ab, ao + (k : Int).toNat * 1, none⟩ = some (.int .i64 (ints m.adv k)) := by rw [Nat.mul_one]; exact har k _ (ints_get hkl)
              have q2 : look F ⟨bb, bo + (k : Int).toNat * 1, none⟩ = some (.int .i64 (ints m.bear k)) := by rw [Nat.mul_one]; exact hbr k _ (ints_get (by omega))
              have hj := hgl k hkl
              unfold Met.ok sm at hj
              have ka' : i64ok (ints m.adv k) := by unfold i64ok; omega
              have kb' : i64ok (ints m.bear k) := by unfold i64ok; omega
              refine sk ?_
              refine sq ?_
              refine bl ?_
              refine sq ?_
              refine rg ?_
              iterate 2 (refine st (h := O) ?_)
              refine nl ?_
              refine sq ?_
              refine rg ?_
              iterate 2 (refine st (h := O) ?_)
              refine st (h := sdM) ?_
              refine st (h := sdFA) ?_
              refine st (h := sdL) ?_
              refine st (h := O) ?_
              refine st (h := (sdX (z := 1))) ?_
              refine st (h := (by first | exact sdLG | exact sdW)) ?_
              refine clA [75] [75] [75, 50, 18, 1] [(1, _), (4, _), (5, _), (8, _), (9, _), (10, _), (76, _), (77, _)] [(75, _)] [(50, _), (18, _), (1, _)] (h := by exact fun ι hV hl => setAtD _ 75 (hmtxN m k ++ zz (4 * (m.adv.length - k))) (4 * k) _ _ _ _ _ _ ka' (h2 := by rw [List.length_append, hmtxN_length, zz_length]; omega) (h3 := by rw [List.length_append, hmtxN_length, zz_length]; omega)) ?_
              intro v10 Y10 K10 hQ10 hp10 hN10
              obtain ⟨rfl, rfl, rfl⟩ := hQ10
              rw [put2 (by rw [hmtxN_length]; omega) (by omega)]
              refine nl ?_
              refine rg ?_
              iterate 2 (refine st (h := O) ?_)
              refine st (h := sdM) ?_
              refine st (h := sdA) ?_
              refine st (h := sdFA) ?_
              refine st (h := sdL) ?_
              refine st (h := O) ?_
              refine st (h := (sdX (z := 1))) ?_
              refine st (h := (by first | exact sdLG | exact sdW)) ?_
              refine clA [75] [75] [75, 50, 18, 1] [(1, _), (4, _), (5, _), (8, _), (9, _), (76, _), (77, _)] [(75, _)] [(50, _), (18, _), (1, _)] (h := by exact fun ι hV hl => setAtD _ 75 (hmtxN m k ++ tb2 (ints m.adv k) ++ zz (4 * (m.adv.length - k) - 2)) (4 * k + 2) _ _ _ _ _ _ kb' (h2 := by rw [List.length_append, List.length_append, hmtxN_length, zz_length]; show _ = _ + 2 + _; omega) (h3 := by rw [List.length_append, List.length_append, hmtxN_length, zz_length]; show _ + 2 + _ ≤ _; omega)) ?_
              intro v11 Y11 K11 hQ11 hp11 hN11
              obtain ⟨rfl, rfl, rfl⟩ := hQ11
              rw [put2 (by rw [List.length_append, hmtxN_length]; show _ + 2 = _; omega) (by omega), show hmtxN m k ++ tb2 (ints m.adv k) ++ tb2 (ints m.bear k) = hmtxN m (k + 1) from by rw [hmtxN, List.append_assoc], show 4 * (m.adv.length - k) - 2 - 2 = 4 * (m.adv.length - (k + 1)) from by omega]
              refine nl ?_
              refine bk ?_
              refine rg ?_
              refine st (h := sdA) ?_
              refine st (h := O) ?_
              refine nl ?_
              refine bk1 (k + 1) (by exact ⟨rfl, trivial⟩) (by exact ⟨rfl, rfl, rfl, rfl, rfl, rfl, trivial⟩) (by exact ⟨rfl, rfl, rfl, rfl, rfl, rfl, rfl, rfl, trivial⟩) ?_ ?_
              · omega
              · omega
            · obtain rfl : k = m.adv.length := by omega
              refine ex ?_
              refine sq ?_
              refine J.weak (L0 := [(4, _), (5, _), (8, _), (9, _)]) (K0 := [(75, _), (50, _), (18, _), (1, _)]) (by exact ⟨rfl, rfl, rfl, rfl, trivial⟩) (by exact ⟨rfl, rfl, rfl, rfl, rfl, rfl, rfl, rfl, trivial⟩) ?_
              refine rg ?_
              refine mkB ?_
              refine st (h := O) ?_
              refine nl ?_
              refine sq ?_
              refine rg ?_
              refine st (h := O) ?_
              refine cpB (sv := ⟨#[0, 1, 0, 0]⟩) [0, 1, 0, 0] ?_
              refine nl ?_
              refine sq ?_
              refine rg ?_
              iterate 2 (refine st (h := O) ?_)
              refine clA [100] [100] [100, 75, 50, 18, 1] [(5, _), (8, _), (9, _), (11, _)] [(100, _)] [(75, _), (50, _), (18, _), (1, _)] (h := by exact fun ι hV hl => setAtD _ 100 _ 4 _ _ _ _ _ _ kn) ?_
              intro v12 Y12 K12 hQ12 hp12 hN12
              obtain ⟨rfl, rfl, rfl⟩ := hQ12
              refine nl ?_
              refine sq ?_
              refine rg ?_
              refine st (h := O) ?_
              refine clA [100] [100] [100, 75, 50, 18, 1] [(5, _), (8, _), (9, _), (11, _)] [(100, _)] [(75, _), (50, _), (18, _), (1, _)] (h := by exact fun ι hV hl => setAtD _ 100 _ 14 2 _ _ _ _ _ k2) ?_
              intro v13 Y13 K13 hQ13 hp13 hN13
              obtain ⟨rfl, rfl, rfl⟩ := hQ13
              refine nl ?_
              refine sq ?_
              refine J.weak (L0 := [(5, _), (8, _), (9, _), (11, _)]) (K0 := [(100, _), (75, _), (50, _), (18, _), (1, _)]) (by exact ⟨rfl, rfl, rfl, rfl, trivial⟩) (by exact ⟨rfl, rfl, rfl, rfl, rfl, rfl, rfl, rfl, rfl, rfl, trivial⟩) ?_
              refine rg ?_
              refine st (h := O) ?_
              refine st (h := sdTx (ns := ms) (hn := by rw [hms]; split <;> simp only [putI_length, hd0_length] <;> rfl)) ?_
              iterate 2 (refine st (h := O) ?_)
              refine st (h := sdTx (hn := by simp only [putI_length, List.length_replicate])) ?_
              iterate 2 (refine st (h := O) ?_)
              refine st (h := sdTx (hn := by rw [List.length_append, hmtxN_length, zz_length]; omega)) ?_
              iterate 2 (refine st (h := O) ?_)
              refine st (h := sdTx (hn := by simp only [putI_length, List.length_replicate])) ?_
              refine st (h := O) ?_
              refine sl ?_
              iterate 2 (refine st (h := O) ?_)
              refine nl ?_
              refine rtX fun ι hV => ?_
              rw [hok]
              refine ⟨ι 120, rfl, fun G hG => kTb_row (l := tbsM m) hG (List.mem_map.2 ⟨_, List.mem_cons_self, rfl⟩) ?_ (Nat.le_of_ble_eq_true rfl)⟩
              have e5 : ms = headN m := by
                rw [hms]
                unfold headN lgI
                cases m.long <;> rfl
              have e9 : hmtxN m m.adv.length ++ zz (4 * (m.adv.length - m.adv.length)) = hmtxN m m.adv.length := by
                rw [Nat.sub_self]
                exact List.append_nil _
              rw [e5, e9]
              rfl

end Go.Proofs.Ytfcckfiipbdnkaa.Am
namespace Go.Proofs.Ytfcckfiipbdnkaa.Am
set_option linter.unusedSimpArgs false
set_option linter.unusedVariables false
open Go Go.RowKit
/-! Structs and arrays of simple parts, compared. -/
inductive LK where
  | s | i | b
def lkOf (P : Program) (t : TypeId) : Option LK := if P.plainKey t then match P.underlying t with
  | some .string => some .s
  | some (.int _) => some .i
  | some .bool => some .b
  | _ => none else none
def lq : LK → Value → Value → Option Bool
  | .s, .string a, .string b => some (a.data.toList == b.data.toList)
  | .i, .int j a, .int j' b => if j == j' then some (a == b) else none
  | .b, .bool a, .bool b => some (a == b)
  | _, _, _ => none
def eqV : List (Nat × LK) → List Value → List Value → Option Bool
  | [], _, _ => some true
  | (o, k) :: ks, xs, ys => match xs[o]?, ys[o]? with
    | some v, some u => match lq k v u, eqV ks xs ys with
      | some a, some b => some (a && b)
      | _, _ => none
    | _, _ => none
theorem eqV_cons {o : Nat} {k : LK} {ks : List (Nat × LK)} {xs ys : List Value} {b : Bool} (h : eqV ((o, k) :: ks) xs ys = some b) : ∃ v u a c, xs[o]? = some v ∧ ys[o]? = some u ∧ lq k v u = some a ∧ eqV ks xs ys = some c ∧ b = (a && c) := by
  unfold eqV at h
  split at h
  · rename_i v u hv hu
    split at h
    · rename_i a c ha hc
      simp only [Option.some.injEq] at h
      exact ⟨v, u, a, c, hv, hu, ha, hc, h.symm⟩
    · cases h
  · cases h
theorem lq_c1 {k : LK} {v u : Value} {a : Bool} (h : lq k v u = some a) (ι : Nat → Nat) : c1 ι v = v ∧ c1 ι u = u := by
  cases k <;> cases v <;> (try (simp [lq] at h; done)) <;> cases u <;> (try (simp [lq] at h; done)) <;> exact ⟨rfl, rfl⟩
theorem eqV_map (ι : Nat → Nat) {xs ys : List Value} : ∀ {ks : List (Nat × LK)} {b : Bool}, eqV ks xs ys = some b → eqV ks (xs.map (c1 ι)) (ys.map (c1 ι)) = some b
  | [], b, h => h
  | (o, k) :: ks, b, h => by
    obtain ⟨v, u, a, c, hv, hu, ha, hc, rfl⟩ := eqV_cons h
    obtain ⟨e1, e2⟩ := lq_c1 ha ι
    have := eqV_map ι hc
    simp only [eqV, List.getElem?_map, hv, hu, Option.map_some, e1, e2, ha, this]
section
variable {P : Program}
theorem lq_run {t : TypeId} {k : LK} (hk : lkOf P t = some k) {v u : Value} {a : Bool} (h : lq k v u = some a) (d : Nat) (w : World) : (Op.equalIn (d + 1) t v u).run P w = .ok a w := by
  unfold lkOf at hk
  split at hk
  · split at hk
    · rename_i hu
      simp only [Option.some.injEq] at hk
      subst hk
      cases v <;> (try (simp [lq] at h; done)) <;> cases u <;> (try (simp [lq] at h; done))
      simp only [lq, Option.some.injEq] at h
      rw [run_equalIn_string w d t _ _ hu, ← h, ByteArray.toList_eq, ByteArray.toList_eq]
    · rename_i j hu
      simp only [Option.some.injEq] at hk
      subst hk
      cases v <;> (try (simp [lq] at h; done)) <;> cases u <;> (try (simp [lq] at h; done))
      simp only [lq] at h
      split at h
      · rename_i e
        simp only [Option.some.injEq, beq_iff_eq] at h e
        subst e
        rw [run_equalIn_int w d t _ j _ _ hu, ← h]
      · cases h
    · rename_i hu
      simp only [Option.some.injEq] at hk
      subst hk
      cases v <;> (try (simp [lq] at h; done)) <;> cases u <;> (try (simp [lq] at h; done))
      simp only [lq, Option.some.injEq] at h
      rw [run_equalIn_bool' w d t _ _ hu, ← h]
    · cases hk
  · cases hk
theorem lk_part {t : TypeId} {k : LK} (hk : lkOf P t = some k) {xs : Array Value} {o : Nat} {v : Value} (hx : xs[o]? = some v) (w : World) : (part t xs o).run P w = .ok v w := by
  unfold lkOf at hk
  split at hk
  · rename_i hp
    exact run_part_plain w hp hx
  · cases hk
def fK (P : Program) : List Field → Option (List (Nat × LK))
  | [] => some []
  | f :: fs => match lkOf P f.type, fK P fs with
    | some k, some ks => if f.name != "_" then some ((f.offset, k) :: ks) else none
    | _, _ => none
def iK (c : Nat) (k : LK) (is : List Nat) : List (Nat × LK) := is.map fun i => (i * c, k)
theorem eqF_run (d : Nat) (xs ys : Array Value) (w : World) : ∀ (fs : List Field) (ks : List (Nat × LK)) (b : Bool), fK P fs = some ks → eqV ks xs.toList ys.toList = some b → (Op.eqFields (d + 1) xs ys fs).run P w = .ok b w
  | [], ks, b, h, hb => by
    simp only [fK, Option.some.injEq] at h
    subst h
    simp only [eqV, Option.some.injEq] at hb
    subst hb
    simp [Op.eqFields]
  | f :: fs, ks, b, h, hb => by
    simp only [fK] at h
    split at h
    · rename_i k ks' h1 h2
      split at h
      · rename_i hn
        simp only [Option.some.injEq] at h
        subst h
        obtain ⟨v, u, a, c, hv, hu, ha, hc, rfl⟩ := eqV_cons hb
        rw [Array.getElem?_toList] at hv hu
        have hn' : f.name ≠ "_" := by simpa using hn
        simp only [Op.eqFields, if_pos hn', Sem.run_bind, lk_part h1 hv, lk_part h1 hu, lq_run h1 ha, Result.andThen_ok]
        cases a
        · simp
        · simpa using eqF_run d xs ys w fs ks' c h2 hc
      · cases h
    · cases h
theorem eqI_run (d : Nat) {e : TypeId} {k : LK} (hk : lkOf P e = some k) (c : Nat) (xs ys : Array Value) (w : World) : ∀ (is : List Nat) (b : Bool), eqV (iK c k is) xs.toList ys.toList = some b → (Op.eqItems (d + 1) e c xs ys is).run P w = .ok b w
  | [], b, hb => by
    simp only [iK, List.map_nil, eqV, Option.some.injEq] at hb
    subst hb
    simp [Op.eqItems]
  | i :: is, b, hb => by
    obtain ⟨v, u, a, z, hv, hu, ha, hc, rfl⟩ := eqV_cons hb
    rw [Array.getElem?_toList] at hv hu
    simp only [Op.eqItems, Sem.run_bind, lk_part hk hv, lk_part hk hu, lq_run hk ha, Result.andThen_ok]
    cases a
    · simp
    · simpa using eqI_run d hk c xs ys w is z hc
/-- a type's simple parts -/
def eqTy (P : Program) (t : TypeId) : Option (List (Nat × LK)) := if P.stoodInHeld t || P.eqGuardType P.depth t then none else match P.underlying t with
  | some (.struct fs) => fK P fs.toList
  | some (.array n e) => match lkOf P e with
    | some k => some (iK (P.cellsOf e) k (List.range n))
    | none => none
  | _ => none
theorem eqTy_run {t : TypeId} {ks : List (Nat × LK)} (h : eqTy P t = some ks) {xs ys : Array Value} {b : Bool} (hb : eqV ks xs.toList ys.toList = some b) (d : Nat) (w : World) : (Op.equalIn (d + 2) t (.agg xs) (.agg ys)).run P w = .ok b w := by
  unfold eqTy at h
  split at h
  · cases h
  · rename_i hg
    simp only [Bool.or_eq_true, not_or, Bool.not_eq_true] at hg
    split at h
    · rename_i fs hu
      have ef : P.fieldsOf t = fs := by simp [Program.fieldsOf, hu]
      rw [run_equalIn_struct w (d + 1) t xs ys (by rw [ef]; exact hu) hg.1, ef]
      exact eqF_run d xs ys w fs.toList ks b h hb
    · rename_i n e hu
      split at h
      · rename_i k hk
        simp only [Option.some.injEq] at h
        subst h
        have hp : ∃ i, P.info? e = some i := by
          unfold lkOf at hk
          split at hk
          · split at hk
            · rename_i hu'; exact info_of_underlying hu'
            · rename_i hu'; exact info_of_underlying hu'
            · rename_i hu'; exact info_of_underlying hu'
            · cases hk
          · cases hk
        obtain ⟨i, hi⟩ := hp
        rw [run_equalIn_array w (d + 1) xs ys hu hi]
        exact eqI_run d hk _ xs ys w _ b hb
      · cases h
    · cases h
theorem eqTy_guard {t : TypeId} {ks : List (Nat × LK)} (h : eqTy P t = some ks) : P.eqGuardType P.depth t = false := by
  unfold eqTy at h
  split at h
  · cases h
  · rename_i hg
    simp only [Bool.or_eq_true, not_or, Bool.not_eq_true] at hg
    exact hg.2
end
section
variable {F : Mem} {K : Own} {L : Slots}
theorem sdEqA {t t' : TypeId} {x y : Operand} {xs ys : List Value} (ks : List (Nat × LK)) {b : Bool} (hx : evO L x = some (.agg ⟨xs⟩) := by rfl) (hy : evO L y = some (.agg ⟨ys⟩) := by rfl) (hf : eqTy Try.prog t = some ks := by kernel_rfl) (hb : eqV ks xs ys = some b := by rfl) : SD Try.prog F K L (.binOp .eql t x y t') (.bool b) := by
  intro ι ρ he o' ho w hS
  obtain ⟨dst, op, type, pos, after, guard⟩ := o'
  simp only at ho
  subst ho
  have hr := eqTy_run hf (xs := ⟨xs.map (c1 ι)⟩) (ys := ⟨ys.map (c1 ι)⟩) (eqV_map ι hb) 9998 w
  have e : ∀ zs : List Value, cV ι (.agg ⟨zs⟩) = .agg ⟨zs.map (c1 ι)⟩ := fun _ => rfl
  have eb : ∀ q : Bool, cV ι (.bool q) = .bool q := fun _ => rfl
  simp only [execOp, he _ _ hx, he _ _ hy, e, eb, Sem.run_bind]
  simp [run_eqGuard_agg w _ _ _ _ _ _ (eqTy_guard hf), run_eql_struct, hr]
theorem sdNeA {t t' : TypeId} {x y : Operand} {xs ys : List Value} (ks : List (Nat × LK)) {b : Bool} (hx : evO L x = some (.agg ⟨xs⟩) := by rfl) (hy : evO L y = some (.agg ⟨ys⟩) := by rfl) (hf : eqTy Try.prog t = some ks := by kernel_rfl) (hb : eqV ks xs ys = some b := by rfl) : SD Try.prog F K L (.binOp .neq t x y t') (.bool (!b)) := by
  intro ι ρ he o' ho w hS
  obtain ⟨dst, op, type, pos, after, guard⟩ := o'
  simp only at ho
  subst ho
  have hr := eqTy_run hf (xs := ⟨xs.map (c1 ι)⟩) (ys := ⟨ys.map (c1 ι)⟩) (eqV_map ι hb) 9998 w
  have e : ∀ zs : List Value, cV ι (.agg ⟨zs⟩) = .agg ⟨zs.map (c1 ι)⟩ := fun _ => rfl
  have eb : ∀ q : Bool, cV ι (.bool q) = .bool q := fun _ => rfl
  simp only [execOp, he _ _ hx, he _ _ hy, e, eb, Sem.run_bind]
  simp [run_eqGuard_agg w _ _ _ _ _ _ (eqTy_guard hf), run_neq_struct, hr]
theorem sdEqP {t t' : TypeId} {x y : Operand} {xs ys : List Value} (p : Prop) [Decidable p] (ks : List (Nat × LK)) {b : Bool} (hp : b = decide p) (hx : evO L x = some (.agg ⟨xs⟩) := by rfl) (hy : evO L y = some (.agg ⟨ys⟩) := by rfl) (hf : eqTy Try.prog t = some ks := by kernel_rfl) (hb : eqV ks xs ys = some b := by rfl) : SD Try.prog F K L (.binOp .eql t x y t') (.bool (decide p)) :=
  hp ▸ sdEqA ks hx hy hf hb
theorem sdNeP {t t' : TypeId} {x y : Operand} {xs ys : List Value} (p : Prop) [Decidable p] (ks : List (Nat × LK)) {b : Bool} (hp : b = decide p) (hx : evO L x = some (.agg ⟨xs⟩) := by rfl) (hy : evO L y = some (.agg ⟨ys⟩) := by rfl) (hf : eqTy Try.prog t = some ks := by kernel_rfl) (hb : eqV ks xs ys = some b := by rfl) : SD Try.prog F K L (.binOp .neq t x y t') (.bool (!decide p)) :=
  hp ▸ sdNeA ks hx hy hf hb
end
end Go.Proofs.Ytfcckfiipbdnkaa.Am
namespace Go.Proofs.Ytfcckfiipbdnkaa.Am
set_option linter.unusedSimpArgs false
set_option linter.unusedVariables false
set_option maxRecDepth 100000
set_option maxHeartbeats 4000000
open Go Go.RowKit
theorem same_takeG {α : Type} {xs ys : List α} {k : Nat} (hk : k < xs.length) (hl : xs.length = ys.length) (h : xs.take k = ys.take k) (he : xs[k]'hk = ys[k]'(by omega)) : xs.take (k + 1) = ys.take (k + 1) := by
  rw [List.take_add_one, List.take_add_one, h, List.getElem?_eq_getElem hk, List.getElem?_eq_getElem (by omega), he]
theorem SameX_C (F : Mem) (a b : Option Addr) (c d : Nat) (xs ys : List Int) (ha : RIx F a xs) (hb : RIx F b ys) : C0 Try.prog 30 [.slice a xs.length c, .slice b ys.length d] F (.bool (decide (xs = ys))) := by
  refine C.go hT Try.func30 Try.ntmps30 ?_
  refine sq ?_
  refine rg ?_
  refine st (h := O) ?_
  refine nl ?_
  iterate 2 (refine sq ?_)
  refine rg ?_
  iterate 5 (refine st (h := O) ?_)
  refine nl ?_
  refine cN (fun c0 => ?_) (fun c0 => ?_)
  · refine sq ?_
    refine rg ?_
    refine st (h := O) ?_
    refine nl ?_
    refine rt ⟨?_, rfl⟩
    have : xs ≠ ys := fun e => c0 (by rw [e])
    simp [this]
  · have hl : xs.length = ys.length := by omega
    refine sk ?_
    iterate 2 (refine sq ?_)
    refine rg ?_
    refine st (h := O) ?_
    refine nl ?_
    refine bl ?_
    refine J.loop1 (α := Nat) (fun k => k ≤ xs.length ∧ xs.take k = ys.take k) (fun k => [(5, .int .i64 k)]) [(0, _), (1, _)] (fun k => []) [] (fun k => xs.length - k) (0) (by exact ⟨rfl, trivial⟩) (by exact ⟨rfl, rfl, trivial⟩) (by exact trivial) ?_ ?_
    · exact ⟨Nat.zero_le _, rfl⟩
    · intro k L1 K1 e1 e2 hI
      dsimp only [apV, apR, List.cons_append, List.nil_append] at e1 e2
      subst e1 e2
      obtain ⟨hk, hok⟩ := hI
      have h63 := ha.h63
      iterate 2 (refine sq ?_)
      refine rg ?_
      iterate 4 (refine st (h := O) ?_)
      refine nl ?_
      refine cD (fun c1 => ?_) (fun c1 => ?_)
      · have hkl : k < xs.length := by omega
        obtain ⟨vb, vo, rfl, hr1⟩ := ha.rd (by omega)
        obtain ⟨ub, uo, rfl, hr2⟩ := hb.rd (by omega)
        have q1 : look F ⟨vb, vo + (k : Int).toNat * 1, none⟩ = some (.int .i64 (ints xs k)) := by rw [Nat.mul_one]; exact hr1 k _ (ints_get hkl)
        have q2 : look F ⟨ub, uo + (k : Int).toNat * 1, none⟩ = some (.int .i64 (ints ys k)) := by rw [Nat.mul_one]; exact hr2 k _ (ints_get (by omega))
        refine sk ?_
        refine sq ?_
        refine bl ?_
        refine sq ?_
        refine dr 9 [] [0, 1, 2, 3, 4, 5, 6, 7, 8] ?_
        iterate 2 (refine dt (hv := by exact O) ?_)
        refine dt (hv := by exact (sdX (z := 1))) ?_
        refine dt (hv := by exact (by first | exact sdLG | exact sdW)) ?_
        iterate 2 (refine dt (hv := by exact O) ?_)
        refine dt (hv := by exact (sdX (z := 1))) ?_
        refine dt (hv := by exact (by first | exact sdLG | exact sdW)) ?_
        refine dt (hv := by exact O) ?_
        refine dn ?_
        refine cN (fun c2 => ?_) (fun c2 => ?_)
        · refine sq ?_
          refine rg ?_
          refine st (h := O) ?_
          refine nl ?_
          refine rt ⟨?_, rfl⟩
          have : xs ≠ ys := fun e => c2 (by rw [e])
          simp [this]
        · refine sk ?_
          refine bk ?_
          refine rg ?_
          refine st (h := O) ?_
          refine st (h := sdA) ?_
          refine st (h := O) ?_
          refine nl ?_
          refine bk1 (k + 1) (by exact ⟨rfl, trivial⟩) (by exact ⟨rfl, rfl, trivial⟩) (by exact trivial) ?_ ?_
          · omega
          · exact ⟨by omega, same_take hl hkl hok c2⟩
      · obtain rfl : k = xs.length := by omega
        rw [List.take_length, hl, List.take_length] at hok
        refine ex ?_
        refine sq ?_
        refine rg ?_
        refine st (h := O) ?_
        refine nl ?_
        refine rt ⟨?_, rfl⟩
        simp [hok]
/-- tables in a slice, told by their places -/
structure TIx (F : Mem) (a : Option Addr) (l : List Tb) : Prop where
  pl : PlA a
  h63 : l.length ≤ 9223372036854775807
  rd : 0 < l.length → ∃ b off, a = some ⟨b, off, none⟩ ∧ ∀ i (hi : i < l.length), (∀ K, rdN F K ⟨b, off + i * 2, none⟩ 2 = some [.string (l[i]'hi).1, .string (l[i]'hi).2]) ∧ look F ⟨b, off + i * 2, none⟩ = some (.string (l[i]'hi).1) ∧ look F ⟨b, off + i * 2 + 1, none⟩ = some (.string (l[i]'hi).2)
theorem kTb_ix {F : Mem} {v : Value} {l : List Tb} (h : kTb.S F v l) : ∃ a c, v = .slice a l.length c ∧ TIx F a l := by
  rcases kTb_forms h with ⟨b, off, c, rfl, h1, h2⟩ | ⟨rfl, rfl⟩
  · exact ⟨_, c, rfl, .inr (.inl ⟨b, off, rfl⟩), h1, fun _ => ⟨b, off, rfl, h2⟩⟩
  · exact ⟨none, 0, rfl, .inl rfl, by simp, fun h => absurd h (Nat.lt_irrefl 0)⟩
theorem tb_eq (x y : Tb) : (x.1.data.toList == y.1.data.toList && (x.2.data.toList == y.2.data.toList && true)) = decide (x = y) := by
  rw [beqS, beqS, Bool.and_true, ← Bool.decide_and, decide_eq_decide]
  exact ⟨fun h => Prod.ext h.1 h.2, fun h => by subst h; exact ⟨rfl, rfl⟩⟩
theorem sameT_C (F : Mem) (v u : Value) (l l' : List Tb) (hv : kTb.S F v l) (hu : kTb.S F u l') : C0 Try.prog 13 [v, u] F (.bool (decide (l = l'))) := by
  obtain ⟨a, c, rfl, ha⟩ := kTb_ix hv
  obtain ⟨b, d, rfl, hb⟩ := kTb_ix hu
  refine C.go hT Try.func13 Try.ntmps13 ?_
  refine sq ?_
  refine rg ?_
  refine st (h := O) ?_
  refine nl ?_
  iterate 2 (refine sq ?_)
  refine rg ?_
  iterate 5 (refine st (h := O) ?_)
  refine nl ?_
  refine cN (fun c0 => ?_) (fun c0 => ?_)
  · refine sq ?_
    refine rg ?_
    refine st (h := O) ?_
    refine nl ?_
    refine rt ⟨?_, rfl⟩
    have : l ≠ l' := fun e => c0 (by rw [e])
    simp [this]
  · have hl : l.length = l'.length := by omega
    refine sk ?_
    iterate 2 (refine sq ?_)
    refine rg ?_
    refine st (h := O) ?_
    refine nl ?_
    refine bl ?_
    refine J.loop1 (α := Nat) (fun k => k ≤ l.length ∧ l.take k = l'.take k) (fun k => [(5, .int .i64 k)]) [(0, _), (1, _)] (fun k => []) [] (fun k => l.length - k) (0) (by exact ⟨rfl, trivial⟩) (by exact ⟨rfl, rfl, trivial⟩) (by exact trivial) ?_ ?_
    · exact ⟨Nat.zero_le _, rfl⟩
    · intro k L1 K1 e1 e2 hI
      dsimp only [apV, apR, List.cons_append, List.nil_append] at e1 e2
      subst e1 e2
      obtain ⟨hk, hok⟩ := hI
      have h63 := ha.h63
      iterate 2 (refine sq ?_)
      refine rg ?_
      iterate 4 (refine st (h := O) ?_)
      refine nl ?_
      refine cD (fun c1 => ?_) (fun c1 => ?_)
      · have hkl : k < l.length := by omega
        have hkl' : k < l'.length := by omega
        obtain ⟨vb, vo, rfl, hr1⟩ := ha.rd (by omega)
        obtain ⟨ub, uo, rfl, hr2⟩ := hb.rd (by omega)
        obtain ⟨q1, _, _⟩ := hr1 k hkl
        obtain ⟨q2, _, _⟩ := hr2 k hkl'
        rw [show vo + k * 2 = vo + (k : Int).toNat * 2 from rfl] at q1
        rw [show uo + k * 2 = uo + (k : Int).toNat * 2 from rfl] at q2
        refine sk ?_
        refine sq ?_
        refine bl ?_
        refine sq ?_
        refine dr 9 [] [0, 1, 2, 3, 4, 5, 6, 7, 8] ?_
        iterate 2 (refine dt (hv := by exact O) ?_)
        refine dt (hv := by exact (sdX (z := 2))) ?_
        refine dt (hv := by exact sdLN (hv := q1 _)) ?_
        iterate 2 (refine dt (hv := by exact O) ?_)
        refine dt (hv := by exact (sdX (z := 2))) ?_
        refine dt (hv := by exact sdLN (hv := q2 _)) ?_
        refine dt (hv := by exact sdNeP (l[k]'hkl = l'[k]'hkl') [(0, .s), (1, .s)] (tb_eq _ _)) ?_
        refine dn ?_
        refine cN (fun c2 => ?_) (fun c2 => ?_)
        · refine sq ?_
          refine rg ?_
          refine st (h := O) ?_
          refine nl ?_
          refine rt ⟨?_, rfl⟩
          have : l ≠ l' := fun e => c2 (by subst e; rfl)
          simp [this]
        · refine sk ?_
          refine bk ?_
          refine rg ?_
          refine st (h := O) ?_
          refine st (h := sdA) ?_
          refine st (h := O) ?_
          refine nl ?_
          refine bk1 (k + 1) (by exact ⟨rfl, trivial⟩) (by exact ⟨rfl, rfl, trivial⟩) (by exact trivial) ?_ ?_
          · omega
          · exact ⟨by omega, same_takeG hkl hl hok c2⟩
      · obtain rfl : k = l.length := by omega
        rw [List.take_length, hl, List.take_length] at hok
        refine ex ?_
        refine sq ?_
        refine rg ?_
        refine st (h := O) ?_
        refine nl ?_
        refine rt ⟨?_, rfl⟩
        simp [hok]
/-- alike in every field -/
def boxEq (B C : Nat → Int) : Prop := B 0 = C 0 ∧ B 1 = C 1 ∧ B 2 = C 2 ∧ B 3 = C 3
instance (B C : Nat → Int) : Decidable (boxEq B C) := by unfold boxEq; infer_instance
theorem box_eq (B C : Nat → Int) : (B 0 == C 0 && (B 1 == C 1 && (B 2 == C 2 && (B 3 == C 3 && true)))) = decide (boxEq B C) := by
  rw [Bool.eq_iff_iff, decide_eq_true_iff]
  simp [boxEq]
def Met.eqv (m w : Met) : Prop := m.up = w.up ∧ m.asc = w.asc ∧ m.desc = w.desc ∧ m.gap = w.gap ∧ boxEq m.box w.box ∧ m.long = w.long ∧ m.adv = w.adv ∧ m.bear = w.bear
instance (m w : Met) : Decidable (m.eqv w) := by unfold Met.eqv; infer_instance
theorem Met.eqv_rfl (m : Met) : m.eqv m := ⟨rfl, rfl, rfl, rfl, ⟨rfl, rfl, rfl, rfl⟩, rfl, rfl, rfl⟩
theorem rSame_C (F : Mem) (m w : Met) (ga ha ga' ha' : Option Addr) (gc hc gc' hc' : Nat) (hga : RIx F ga m.adv) (hha : RIx F ha m.bear) (hga' : RIx F ga' w.adv) (hha' : RIx F ha' w.bear) : C0 Try.prog 12 [m.v ga gc ha hc, w.v ga' gc' ha' hc'] F (.bool (decide (m.eqv w))) := by
  unfold Met.v
  refine C.go hT Try.func12 Try.ntmps12 ?_
  refine sq ?_
  refine rg ?_
  refine bx (hL := by simp [ntL, ntV, nt2, argL, nt1_i, nt1_b, hga.pl.nt, hha.pl.nt, hga'.pl.nt, hha'.pl.nt]) ?_
  refine JL.flat (m.pl hga.pl hha.pl gc hc) ?_
  refine bx (hL := by simp [ntL, ntV, nt2, argL, nt1_i, nt1_b, nt1_p, hga.pl.nt, hha.pl.nt, hga'.pl.nt, hha'.pl.nt]) ?_
  refine JL.flat (w.pl hga'.pl hha'.pl gc' hc') ?_
  refine st (h := O) ?_
  refine nl ?_
  refine sq ?_
  refine J.weak (L0 := [(2, _), (3, _)]) (K0 := [(3, _), (2, _)]) (by exact ⟨rfl, rfl, trivial⟩) (by exact ⟨rfl, rfl, rfl, rfl, trivial⟩) ?_
  refine rg ?_
  refine st (h := sdFA) ?_
  refine st (h := sdL) ?_
  refine st (h := sdFA) ?_
  refine st (h := sdL) ?_
  iterate 2 (refine st (h := O) ?_)
  refine gD (fun g10 => ?_) (fun g10 => ?_)
  · refine sg (h := sdFA) ?_
    refine sg (h := sdL) ?_
    refine sg (h := sdFA) ?_
    refine sg (h := sdL) ?_
    refine sg (h := O) ?_
    iterate 2 (refine st (h := O) ?_)
    refine gD (fun g17 => ?_) (fun g17 => ?_)
    · refine sg (h := sdFA) ?_
      refine sg (h := sdL) ?_
      refine sg (h := sdFA) ?_
      refine sg (h := sdL) ?_
      refine sg (h := O) ?_
      iterate 2 (refine st (h := O) ?_)
      refine gD (fun g24 => ?_) (fun g24 => ?_)
      · refine sg (h := sdFA) ?_
        refine sg (h := sdL) ?_
        refine sg (h := sdFA) ?_
        refine sg (h := sdL) ?_
        refine sg (h := O) ?_
        iterate 2 (refine st (h := O) ?_)
        refine gD (fun g31 => ?_) (fun g31 => ?_)
        · refine sg (h := sdFA) ?_
          refine sg (h := sdLN) ?_
          refine sg (h := sdFA) ?_
          refine sg (h := sdLN) ?_
          refine sg (h := sdEqP (boxEq m.box w.box) [(0, .i), (1, .i), (2, .i), (3, .i)] (box_eq m.box w.box)) ?_
          iterate 2 (refine st (h := O) ?_)
          refine gD (fun g38 => ?_) (fun g38 => ?_)
          · refine sg (h := sdFA) ?_
            refine sg (h := sdL) ?_
            refine sg (h := sdFA) ?_
            refine sg (h := sdL) ?_
            refine sg (h := sbEq) ?_
            iterate 2 (refine st (h := O) ?_)
            refine gB (fun g45 => ?_) (fun g45 => ?_)
            · refine sg (h := sdFA) ?_
              refine sg (h := sdL) ?_
              refine sg (h := sdFA) ?_
              refine sg (h := sdL) ?_
              refine clg (h := by exact fun ι hV hl => (SameX_C _ ga ga' gc gc' m.adv w.adv (hga.le hl) (hga'.le hl)).ofR (arg2 (hga.pl.rV ι _ _) (hga'.pl.rV ι _ _))) ?_
              iterate 2 (refine st (h := O) ?_)
              refine gB (fun g52 => ?_) (fun g52 => ?_)
              · refine sg (h := sdFA) ?_
                refine sg (h := sdL) ?_
                refine sg (h := sdFA) ?_
                refine sg (h := sdL) ?_
                refine clg (h := by exact fun ι hV hl => (SameX_C _ ha ha' hc hc' m.bear w.bear (hha.le hl) (hha'.le hl)).ofR (arg2 (hha.pl.rV ι _ _) (hha'.pl.rV ι _ _))) ?_
                iterate 2 (refine st (h := O) ?_)
                refine nl ?_
                refine rt ⟨congrArg Value.bool ?_, rfl⟩
                try simp only [decide_eq_true_eq, decide_eq_false_iff_not] at g52
                first
                  | (rw [eq_comm, decide_eq_false_iff_not]
                     rintro ⟨e1, e2, e3, e4, e5, e6, e7, e8⟩
                     first | exact g10 e1 | exact g17 e2 | exact g24 e3 | exact g31 e4 | exact g38 e5 | (rw [e6] at g45; simp at g45; done) | exact g52 e7)
                  | (rw [decide_eq_decide]
                     exact ⟨fun e8 => ⟨g10, g17, g24, g31, g38, by simpa using g45, g52, e8⟩, fun h => h.2.2.2.2.2.2.2⟩)
              · refine sp ?_
                iterate 4 (refine sp ?_)
                iterate 2 (refine st (h := O) ?_)
                refine nl ?_
                refine rt ⟨congrArg Value.bool ?_, rfl⟩
                try simp only [decide_eq_true_eq, decide_eq_false_iff_not] at g52
                first
                  | (rw [eq_comm, decide_eq_false_iff_not]
                     rintro ⟨e1, e2, e3, e4, e5, e6, e7, e8⟩
                     first | exact g10 e1 | exact g17 e2 | exact g24 e3 | exact g31 e4 | exact g38 e5 | (rw [e6] at g45; simp at g45; done) | exact g52 e7)
                  | (rw [decide_eq_decide]
                     exact ⟨fun e8 => ⟨g10, g17, g24, g31, g38, by simpa using g45, g52, e8⟩, fun h => h.2.2.2.2.2.2.2⟩)
            · refine sp ?_
              iterate 4 (refine sp ?_)
              iterate 2 (refine st (h := O) ?_)
              iterate 5 (refine sp ?_)
              iterate 2 (refine st (h := O) ?_)
              refine nl ?_
              refine rt ⟨congrArg Value.bool ?_, rfl⟩
              try simp only [decide_eq_true_eq, decide_eq_false_iff_not] at g52
              first
                | (rw [eq_comm, decide_eq_false_iff_not]
                   rintro ⟨e1, e2, e3, e4, e5, e6, e7, e8⟩
                   first | exact g10 e1 | exact g17 e2 | exact g24 e3 | exact g31 e4 | exact g38 e5 | (rw [e6] at g45; simp at g45; done) | exact g52 e7)
                | (rw [decide_eq_decide]
                   exact ⟨fun e8 => ⟨g10, g17, g24, g31, g38, by simpa using g45, g52, e8⟩, fun h => h.2.2.2.2.2.2.2⟩)
          · refine sp ?_
            iterate 4 (refine sp ?_)
            iterate 2 (refine st (h := O) ?_)
            iterate 5 (refine sp ?_)
            iterate 2 (refine st (h := O) ?_)
            iterate 5 (refine sp ?_)
            iterate 2 (refine st (h := O) ?_)
            refine nl ?_
            refine rt ⟨congrArg Value.bool ?_, rfl⟩
            try simp only [decide_eq_true_eq, decide_eq_false_iff_not] at g52
            first
              | (rw [eq_comm, decide_eq_false_iff_not]
                 rintro ⟨e1, e2, e3, e4, e5, e6, e7, e8⟩
                 first | exact g10 e1 | exact g17 e2 | exact g24 e3 | exact g31 e4 | exact g38 e5 | (rw [e6] at g45; simp at g45; done) | exact g52 e7)
              | (rw [decide_eq_decide]
                 exact ⟨fun e8 => ⟨g10, g17, g24, g31, g38, by simpa using g45, g52, e8⟩, fun h => h.2.2.2.2.2.2.2⟩)
        · refine sp ?_
          iterate 4 (refine sp ?_)
          iterate 2 (refine st (h := O) ?_)
          iterate 5 (refine sp ?_)
          iterate 2 (refine st (h := O) ?_)
          iterate 5 (refine sp ?_)
          iterate 2 (refine st (h := O) ?_)
          iterate 5 (refine sp ?_)
          iterate 2 (refine st (h := O) ?_)
          refine nl ?_
          refine rt ⟨congrArg Value.bool ?_, rfl⟩
          try simp only [decide_eq_true_eq, decide_eq_false_iff_not] at g52
          first
            | (rw [eq_comm, decide_eq_false_iff_not]
               rintro ⟨e1, e2, e3, e4, e5, e6, e7, e8⟩
               first | exact g10 e1 | exact g17 e2 | exact g24 e3 | exact g31 e4 | exact g38 e5 | (rw [e6] at g45; simp at g45; done) | exact g52 e7)
            | (rw [decide_eq_decide]
               exact ⟨fun e8 => ⟨g10, g17, g24, g31, g38, by simpa using g45, g52, e8⟩, fun h => h.2.2.2.2.2.2.2⟩)
      · refine sp ?_
        iterate 4 (refine sp ?_)
        iterate 2 (refine st (h := O) ?_)
        iterate 5 (refine sp ?_)
        iterate 2 (refine st (h := O) ?_)
        iterate 5 (refine sp ?_)
        iterate 2 (refine st (h := O) ?_)
        iterate 5 (refine sp ?_)
        iterate 2 (refine st (h := O) ?_)
        iterate 5 (refine sp ?_)
        iterate 2 (refine st (h := O) ?_)
        refine nl ?_
        refine rt ⟨congrArg Value.bool ?_, rfl⟩
        try simp only [decide_eq_true_eq, decide_eq_false_iff_not] at g52
        first
          | (rw [eq_comm, decide_eq_false_iff_not]
             rintro ⟨e1, e2, e3, e4, e5, e6, e7, e8⟩
             first | exact g10 e1 | exact g17 e2 | exact g24 e3 | exact g31 e4 | exact g38 e5 | (rw [e6] at g45; simp at g45; done) | exact g52 e7)
          | (rw [decide_eq_decide]
             exact ⟨fun e8 => ⟨g10, g17, g24, g31, g38, by simpa using g45, g52, e8⟩, fun h => h.2.2.2.2.2.2.2⟩)
    · refine sp ?_
      iterate 4 (refine sp ?_)
      iterate 2 (refine st (h := O) ?_)
      iterate 5 (refine sp ?_)
      iterate 2 (refine st (h := O) ?_)
      iterate 5 (refine sp ?_)
      iterate 2 (refine st (h := O) ?_)
      iterate 5 (refine sp ?_)
      iterate 2 (refine st (h := O) ?_)
      iterate 5 (refine sp ?_)
      iterate 2 (refine st (h := O) ?_)
      iterate 5 (refine sp ?_)
      iterate 2 (refine st (h := O) ?_)
      refine nl ?_
      refine rt ⟨congrArg Value.bool ?_, rfl⟩
      try simp only [decide_eq_true_eq, decide_eq_false_iff_not] at g52
      first
        | (rw [eq_comm, decide_eq_false_iff_not]
           rintro ⟨e1, e2, e3, e4, e5, e6, e7, e8⟩
           first | exact g10 e1 | exact g17 e2 | exact g24 e3 | exact g31 e4 | exact g38 e5 | (rw [e6] at g45; simp at g45; done) | exact g52 e7)
        | (rw [decide_eq_decide]
           exact ⟨fun e8 => ⟨g10, g17, g24, g31, g38, by simpa using g45, g52, e8⟩, fun h => h.2.2.2.2.2.2.2⟩)
  · refine sp ?_
    iterate 4 (refine sp ?_)
    iterate 2 (refine st (h := O) ?_)
    iterate 5 (refine sp ?_)
    iterate 2 (refine st (h := O) ?_)
    iterate 5 (refine sp ?_)
    iterate 2 (refine st (h := O) ?_)
    iterate 5 (refine sp ?_)
    iterate 2 (refine st (h := O) ?_)
    iterate 5 (refine sp ?_)
    iterate 2 (refine st (h := O) ?_)
    iterate 5 (refine sp ?_)
    iterate 2 (refine st (h := O) ?_)
    iterate 5 (refine sp ?_)
    iterate 2 (refine st (h := O) ?_)
    refine nl ?_
    refine rt ⟨congrArg Value.bool ?_, rfl⟩
    try simp only [decide_eq_true_eq, decide_eq_false_iff_not] at g52
    first
      | (rw [eq_comm, decide_eq_false_iff_not]
         rintro ⟨e1, e2, e3, e4, e5, e6, e7, e8⟩
         first | exact g10 e1 | exact g17 e2 | exact g24 e3 | exact g31 e4 | exact g38 e5 | (rw [e6] at g45; simp at g45; done) | exact g52 e7)
      | (rw [decide_eq_decide]
         exact ⟨fun e8 => ⟨g10, g17, g24, g31, g38, by simpa using g45, g52, e8⟩, fun h => h.2.2.2.2.2.2.2⟩)

end Go.Proofs.Ytfcckfiipbdnkaa.Am
namespace Go.Proofs.Ytfcckfiipbdnkaa.Am
set_option linter.unusedSimpArgs false
set_option linter.unusedVariables false
set_option maxRecDepth 100000
set_option maxHeartbeats 4000000
open Go Go.RowKit
theorem two_tx {ns : List Int} (hb : bys ns) {i : Nat} (hi : i + 1 < ns.length) : two (tx ns) i = ns.getD i 0 * 256 + ns.getD (i + 1) 0 := by
  rw [two, byteAt_tx hb (by omega), byteAt_tx hb hi]
theorem ext_tx (ns : List Int) (i j : Nat) : (tx ns).extract i j = tx ((ns.take j).drop i) := by
  apply ByteArray.ext
  rw [List.drop_take]
  simp [tx, strOfNums, ByteArray.data_extract, List.map_drop, List.map_take]
theorem zz_bys (n : Nat) : bys (zz n) := fun x hx => by
  rw [List.eq_of_mem_replicate hx]; omega
theorem bys_of {ns : List Int} (h : ns.all (fun n => decide (0 ≤ n) && decide (n < 256)) = true) : bys ns := fun n hn => by
  have := List.all_eq_true.1 h n hn
  simpa using this
theorem headN_bys (m : Met) : bys (headN m) := by
  unfold headN
  repeat' apply bys.append
  all_goals first | exact tb2_bys _ | exact zz_bys _ | exact bys_of rfl
theorem hheaN_bys (m : Met) : bys (hheaN m) := by
  unfold hheaN
  repeat' apply bys.append
  all_goals first | exact tb2_bys _ | exact zz_bys _ | exact bys_of rfl
theorem maxpN_bys (m : Met) : bys (maxpN m) := by
  unfold maxpN
  repeat' apply bys.append
  all_goals first | exact tb2_bys _ | exact zz_bys _ | exact bys_of rfl
theorem hmtxN_bys (m : Met) : ∀ k, bys (hmtxN m k)
  | 0 => fun x hx => by cases hx
  | k + 1 => (hmtxN_bys m k).append ((tb2_bys _).append (tb2_bys _))
theorem hmtxN_cut (m : Met) (k : Nat) : ∀ n, k < n → ∃ r, hmtxN m n = hmtxN m k ++ (tb2 (ints m.adv k) ++ (tb2 (ints m.bear k) ++ r))
  | 0, h => absurd h (Nat.not_lt_zero _)
  | n + 1, h => by
    rcases Nat.lt_or_ge k n with h' | h'
    · obtain ⟨r, hr⟩ := hmtxN_cut m k n h'
      exact ⟨r ++ (tb2 (ints m.adv n) ++ tb2 (ints m.bear n)), by rw [hmtxN, hr]; simp only [List.append_assoc]⟩
    · obtain rfl : k = n := by omega
      exact ⟨[], by rw [hmtxN, List.append_nil]⟩
theorem two_mid {A B : List Int} {x : Int} (hb : bys (A ++ (tb2 x ++ B))) : two (tx (A ++ (tb2 x ++ B))) A.length = hiB x * 256 + loB x := by
  rw [two_tx hb (by simp [tb2])]
  simp [tb2, List.getD_eq_getElem?_getD]
theorem hmtx_adv {m : Met} {k n : Nat} (h : k < n) (h0 : 0 ≤ ints m.adv k) (h1 : ints m.adv k ≤ 65535) : two (tx (hmtxN m n)) (4 * k) = ints m.adv k := by
  obtain ⟨r, hr⟩ := hmtxN_cut m k n h
  have hb := hmtxN_bys m n
  rw [hr] at hb ⊢
  rw [← hmtxN_length m k, two_mid hb, hl_two h0 (by omega)]
theorem hmtx_bear {m : Met} {k n : Nat} (h : k < n) (hs : sm (ints m.bear k)) : sg2 (two (tx (hmtxN m n)) (4 * k + 2)) = ints m.bear k := by
  obtain ⟨r, hr⟩ := hmtxN_cut m k n h
  have hb := hmtxN_bys m n
  rw [hr, ← List.append_assoc] at hb ⊢
  have e : 4 * k + 2 = (hmtxN m k ++ tb2 (ints m.adv k)).length := by rw [List.length_append, hmtxN_length]; rfl
  rw [e, two_mid hb, hl_sg hs.1 hs.2]
theorem ints_list (xs : List Int) : (List.range xs.length).map (ints xs) = xs := by
  apply List.ext_getElem
  · simp
  · intro i h1 h2
    simp only [List.getElem_map, List.getElem_range]
    have := ints_get h2
    rw [List.getElem?_eq_getElem h2, Option.some.injEq] at this
    exact this.symm
theorem fnd_tbs (m : Met) : fnd (tbsM m) sMaxp = some (tx (maxpN m)) ∧ fnd (tbsM m) sHead = some (tx (headN m)) ∧ fnd (tbsM m) sHhea = some (tx (hheaN m)) ∧ fnd (tbsM m) sHmtx = some (tx (hmtxN m m.adv.length)) :=
  ⟨fnd_at (l := tbsM m) (k := 3) (by show 3 < 4; omega) (fun j hj => by rcases (show j = 0 ∨ j = 1 ∨ j = 2 from by omega) with rfl | rfl | rfl <;> exact of_decide_eq_false rfl) rfl,
   fnd_at (l := tbsM m) (k := 0) (by show 0 < 4; omega) (fun j hj => by omega) rfl,
   fnd_at (l := tbsM m) (k := 1) (by show 1 < 4; omega) (fun j hj => by rcases (show j = 0 from by omega) with rfl; exact of_decide_eq_false rfl) rfl,
   fnd_at (l := tbsM m) (k := 2) (by show 2 < 4; omega) (fun j hj => by rcases (show j = 0 ∨ j = 1 from by omega) with rfl | rfl <;> exact of_decide_eq_false rfl) rfl⟩
theorem at_two {ns : List Int} {i : Nat} {x : Int} (hb : bys ns) (hl : ns.length = i + 2 + (ns.length - (i + 2))) (h1 : ns.getD i 0 = hiB x) (h2 : ns.getD (i + 1) 0 = loB x) : two (tx ns) i = hiB x * 256 + loB x := by
  rw [two_tx hb (by omega), h1, h2]
theorem headN_length (m : Met) : (headN m).length = 54 := by kernel_rfl
theorem hheaN_length (m : Met) : (hheaN m).length = 36 := by kernel_rfl
theorem maxpN_length (m : Met) : (maxpN m).length = 32 := by kernel_rfl
theorem mp4 (m : Met) : two (tx (maxpN m)) 4 = hiB m.adv.length * 256 + loB m.adv.length := at_two (maxpN_bys m) (by rw [maxpN_length]) (by kernel_rfl) (by kernel_rfl)
theorem hd18 (m : Met) : two (tx (headN m)) 18 = hiB m.up * 256 + loB m.up := at_two (headN_bys m) (by rw [headN_length]) (by kernel_rfl) (by kernel_rfl)
theorem hd36 (m : Met) : two (tx (headN m)) 36 = hiB (m.box 0) * 256 + loB (m.box 0) := at_two (headN_bys m) (by rw [headN_length]) (by kernel_rfl) (by kernel_rfl)
theorem hd38 (m : Met) : two (tx (headN m)) 38 = hiB (m.box 1) * 256 + loB (m.box 1) := at_two (headN_bys m) (by rw [headN_length]) (by kernel_rfl) (by kernel_rfl)
theorem hd40 (m : Met) : two (tx (headN m)) 40 = hiB (m.box 2) * 256 + loB (m.box 2) := at_two (headN_bys m) (by rw [headN_length]) (by kernel_rfl) (by kernel_rfl)
theorem hd42 (m : Met) : two (tx (headN m)) 42 = hiB (m.box 3) * 256 + loB (m.box 3) := at_two (headN_bys m) (by rw [headN_length]) (by kernel_rfl) (by kernel_rfl)
theorem hd50 (m : Met) : two (tx (headN m)) 50 = hiB (lgI m.long) * 256 + loB (lgI m.long) := at_two (headN_bys m) (by rw [headN_length]) (by kernel_rfl) (by kernel_rfl)
theorem hd52 (m : Met) : two (tx (headN m)) 52 = hiB 0 * 256 + loB 0 := at_two (headN_bys m) (by rw [headN_length]) (by kernel_rfl) (by kernel_rfl)
theorem hh4 (m : Met) : two (tx (hheaN m)) 4 = hiB m.asc * 256 + loB m.asc := at_two (hheaN_bys m) (by rw [hheaN_length]) (by kernel_rfl) (by kernel_rfl)
theorem hh6 (m : Met) : two (tx (hheaN m)) 6 = hiB m.desc * 256 + loB m.desc := at_two (hheaN_bys m) (by rw [hheaN_length]) (by kernel_rfl) (by kernel_rfl)
theorem hh8 (m : Met) : two (tx (hheaN m)) 8 = hiB m.gap * 256 + loB m.gap := at_two (hheaN_bys m) (by rw [hheaN_length]) (by kernel_rfl) (by kernel_rfl)
theorem hh32 (m : Met) : two (tx (hheaN m)) 32 = hiB 0 * 256 + loB 0 := at_two (hheaN_bys m) (by rw [hheaN_length]) (by kernel_rfl) (by kernel_rfl)
theorem hh34 (m : Met) : two (tx (hheaN m)) 34 = hiB m.adv.length * 256 + loB m.adv.length := at_two (hheaN_bys m) (by rw [hheaN_length]) (by kernel_rfl) (by kernel_rfl)
theorem hd_one (m : Met) : (tx (headN m)).extract 0 4 = vOne := by rw [ext_tx]; kernel_rfl
theorem hd_mag (m : Met) : (tx (headN m)).extract 12 16 = vMag := by rw [ext_tx]; kernel_rfl
theorem hh_one (m : Met) : (tx (hheaN m)).extract 0 4 = vOne := by rw [ext_tx]; kernel_rfl
theorem mp_one (m : Met) : (tx (maxpN m)).extract 0 4 = vOne := by rw [ext_tx]; kernel_rfl
theorem lg_hi (b : Bool) : hiB (lgI b) * 256 + loB (lgI b) = lgI b := by cases b <;> decide
theorem hl0 : hiB 0 * 256 + loB 0 = 0 := by decide
theorem maxp_two (m : Met) (h1 : m.adv.length ≤ 4096) : two (tx (maxpN m)) 4 = m.adv.length := by
  rw [mp4]; exact hl_two (by omega) (by omega)
theorem head_ok {m : Met} (hg : m.good) : okHd (tx (headN m)) := by
  have hp := hg.1.1
  unfold Met.pre at hp
  have eu : two (tx (headN m)) 18 = m.up := by rw [hd18]; exact hl_two (by omega) (by omega)
  have el : two (tx (headN m)) 50 = lgI m.long := by rw [hd50, lg_hi]
  refine ⟨hd_one m, hd_mag m, by omega, by omega, ?_, by rw [hd52, hl0]⟩
  rw [el]; unfold lgI; split <;> omega
theorem maxp_ok {m : Met} (hg : m.good) : okMp (tx (maxpN m)) := by
  have hp := hg.1.1
  unfold Met.pre at hp
  refine ⟨.inr (mp_one m), ?_, ?_⟩ <;> rw [maxp_two m (by omega)] <;> omega
theorem hhea_ok {m : Met} (hg : m.good) : okHh (tx (hheaN m)) (two (tx (maxpN m)) 4) ∧ two (tx (hheaN m)) 34 = m.adv.length := by
  have hp := hg.1.1
  unfold Met.pre at hp
  have e34 : two (tx (hheaN m)) 34 = m.adv.length := by rw [hh34]; exact hl_two (by omega) (by omega)
  refine ⟨⟨hh_one m, by rw [hh32, hl0], by omega, ?_⟩, e34⟩
  rw [e34, maxp_two m (by omega)]; omega
theorem all_ok {m : Met} (hg : m.good) : okAll (tx (maxpN m)) (tx (headN m)) (tx (hheaN m)) (tx (hmtxN m m.adv.length)) := by
  have hp := hg.1.1
  unfold Met.pre at hp
  have e34 := (hhea_ok hg).2
  have e4 := maxp_two m (by omega)
  refine ⟨?_, ?_, ?_, maxp_ok hg, head_ok hg, (hhea_ok hg).1, ?_⟩
  · rw [tx_size, maxpN_length]; omega
  · rw [tx_size, headN_length]; omega
  · rw [tx_size, hheaN_length]; omega
  · unfold okHm
    rw [tx_size, hmtxN_length, e34, e4]; omega
theorem met_eqv {m : Met} (hg : m.good) : (metOf (tx (maxpN m)) (tx (headN m)) (tx (hheaN m)) (tx (hmtxN m m.adv.length))).eqv m := by
  have hp := hg.1.1
  have hbx := hg.1.2
  have hgl := hg.2
  unfold Met.pre at hp
  obtain ⟨p1, p2, ⟨p3, p4⟩, ⟨p5, p6⟩, ⟨p7, p8⟩, p9, p10, hbl⟩ := hp
  have e34 := (hhea_ok hg).2
  have e4 := maxp_two m (by omega)
  unfold Met.eqv boxEq
  dsimp only [metOf]
  refine ⟨?_, ?_, ?_, ?_, ⟨?_, ?_, ?_, ?_⟩, ?_, ?_, ?_⟩
  · rw [hd18]; exact hl_two (by omega) (by omega)
  · rw [hh4]; exact hl_sg p3 p4
  · rw [hh6]; exact hl_sg p5 p6
  · rw [hh8]; exact hl_sg p7 p8
  · rw [hd36]; exact hl_sg (hbx 0 (by omega)).1 (hbx 0 (by omega)).2
  · rw [hd38]; exact hl_sg (hbx 1 (by omega)).1 (hbx 1 (by omega)).2
  · rw [hd40]; exact hl_sg (hbx 2 (by omega)).1 (hbx 2 (by omega)).2
  · rw [hd42]; exact hl_sg (hbx 3 (by omega)).1 (hbx 3 (by omega)).2
  · rw [hd50, lg_hi]
    unfold lgI
    cases m.long <;> rfl
  · rw [e4, e34, Int.toNat_natCast]
    conv => rhs; rw [← ints_list m.adv]
    refine List.map_congr_left fun k hk => ?_
    have hk' := List.mem_range.1 hk
    rw [advAt, Nat.min_eq_left (by omega), hmtx_adv hk' (hgl k hk').1 (hgl k hk').2.1]
  · rw [e4, e34, Int.toNat_natCast]
    conv => rhs; rw [← ints_list m.bear, hbl]
    refine List.map_congr_left fun k hk => ?_
    have hk' := List.mem_range.1 hk
    rw [bearAt, if_pos hk', hmtx_bear hk' (hgl k hk').2.2]
theorem read_tbs {m : Met} (hg : m.good) : ∃ w, readD (tbsM m) = some w ∧ w.eqv m := by
  obtain ⟨f1, f2, f3, f4⟩ := fnd_tbs m
  exact ⟨_, by rw [readD, f1, f2, f3, f4]; exact if_pos (all_ok hg), met_eqv hg⟩

end Go.Proofs.Ytfcckfiipbdnkaa.Am
namespace Go.Proofs.Ytfcckfiipbdnkaa.Am
set_option linter.unusedSimpArgs false
set_option linter.unusedVariables false
set_option maxRecDepth 100000
set_option maxHeartbeats 4000000
open Go Go.RowKit
def smallM : Met := { up := 1000, asc := 0, desc := 0, gap := 0, box := fun _ => 0, long := false, adv := [500, 20], bear := [0, -1] }
theorem smallM_good : smallM.good := by
  refine ⟨⟨by decide, fun j _ => ⟨by show -32768 ≤ (0 : Int); omega, by show (0 : Int) ≤ 32767; omega⟩⟩, fun j hj => ?_⟩
  have : j < 2 := hj
  rcases (show j = 0 ∨ j = 1 from by omega) with rfl | rfl <;> decide
def RMet2 (m : Met) (u : Value) (Y : List (Nat × Row)) : Prop := ∃ b b' c c', u = m.v (some ⟨b, 0, none⟩) c (some ⟨b', 0, none⟩) c' ∧ ∀ G, Rd G Y → RIx G (some ⟨b, 0, none⟩) m.adv ∧ RIx G (some ⟨b', 0, none⟩) m.bear
theorem small_C (F : Mem) : C Try.prog 24 [] F (RMet2 smallM) := by
  refine C.go hT Try.func24 Try.ntmps24 ?_
  refine sq ?_
  refine rg ?_
  refine al ?_
  refine nl ?_
  refine sq ?_
  refine rg ?_
  iterate 2 (refine sl ?_)
  refine st (h := O) ?_
  refine so ?_
  refine nl ?_
  refine rtX fun ι hV => ⟨ι 1, ι 2, 2, 2, rfl, fun G hG => ⟨?_, ?_⟩⟩
  · exact hG.ix (List.mem_map.2 ⟨_, List.mem_cons_of_mem _ List.mem_cons_self, rfl⟩) rfl (by decide)
  · exact hG.ix (List.mem_map.2 ⟨_, List.mem_cons_self, rfl⟩) rfl (by decide)
theorem tbsM_size {m : Met} (hn : m.adv.length ≤ 4096) : ∀ x ∈ tbsM m, x.2.size ≤ 140737488355328 := by
  intro x hx
  simp only [tbsM, List.mem_cons, List.not_mem_nil, or_false] at hx
  rcases hx with rfl | rfl | rfl | rfl <;> dsimp only
  · rw [tx_size, headN_length]; omega
  · rw [tx_size, hheaN_length]; omega
  · rw [tx_size, hmtxN_length]; omega
  · rw [tx_size, maxpN_length]; omega
theorem wakes_C (F : Mem) : C0 Try.prog 9 [] F (.bool true) := by
  have hb : bldD smallM = some (tbsM smallM) := if_pos smallM_good
  obtain ⟨w, hw, he⟩ := read_tbs smallM_good
  have hu : w.up = 1000 := he.1
  have hx : w.adv.length = 2 := congrArg List.length he.2.2.2.2.2.2.1
  have hwd : smallM.width 0 655360 = (327680, true) := by decide
  refine C.go hT Try.func9 Try.ntmps9 ?_
  refine sq ?_
  refine rg ?_
  refine st (h := O) ?_
  refine nl ?_
  refine sq ?_
  refine rg ?_
  refine clC (h := by exact fun ι hV hl => small_C _) ?_
  intro u1 Y1 hQ1 hv1 hp1 hN1
  obtain ⟨b1, b2, c1, c2, rfl, hR1⟩ := hQ1
  obtain ⟨hA1, hB1⟩ := hR1 _ hN1.rows
  refine cl (h := by exact fun ι hV hl => (hwd ▸ mWidth_C _ smallM _ _ _ _ 0 655360 (hA1.le hl) hB1.pl (by intro x hx; simp [smallM] at hx; unfold i64ok; omega) (by unfold i64ok; omega) (by show i64ok 1000; unfold i64ok; omega)).ofR (arg3 (smallM.rV hA1.pl hB1.pl _ _ ι) rfl rfl)) ?_
  iterate 5 (refine st (h := O) ?_)
  refine nl ?_
  refine sq ?_
  refine rg ?_
  refine clC (h := by exact fun ι hV hl => small_C _) ?_
  intro u2 Y2 hQ2 hv2 hp2 hN2
  obtain ⟨b3, b4, c3, c4, rfl, hR2⟩ := hQ2
  obtain ⟨hA2, hB2⟩ := hR2 _ hN2.rows
  refine clC (h := by exact fun ι hV hl => (mBuild_C _ smallM _ _ _ _ (hA2.le hl) (hB2.le hl)).ofR (arg1 (smallM.rV hA2.pl hB2.pl _ _ ι))) ?_
  intro u3 Y3 hQ3 hv3 hp3 hN3
  rw [hb] at hQ3
  obtain ⟨b5, rfl, hTb⟩ := hQ3
  have hT3 := hTb _ hN3.rows
  iterate 5 (refine st (h := O) ?_)
  refine nl ?_
  refine sq ?_
  refine rg ?_
  refine st (h := O) ?_
  refine clC (h := by exact fun ι hV hl => mRead_C _ _ (tbsM smallM) (hT3.le hl) (tbsM_size (by decide))) ?_
  intro u4 Y4 hQ4 hv4 hp4 hN4
  rw [hw] at hQ4
  obtain ⟨b6, c6, b7, c7, rfl, hR4⟩ := hQ4
  iterate 3 (refine st (h := O) ?_)
  refine al ?_
  refine so ?_
  refine st (h := O) ?_
  refine nl ?_
  refine sq ?_
  refine rg ?_
  iterate 2 (refine st (h := O) ?_)
  refine gB (fun g23 => ?_) (fun g23 => ?_)
  · refine sg (h := O) ?_
    refine sg (h := O) ?_
    iterate 2 (refine st (h := O) ?_)
    refine gD (fun g27 => ?_) (fun g27 => ?_)
    · refine sg (h := O) ?_
      refine sg (h := O) ?_
      iterate 2 (refine st (h := O) ?_)
      refine gD (fun g31 => ?_) (fun g31 => ?_)
      · refine sg (h := O) ?_
        iterate 2 (refine sg (h := O) ?_)
        iterate 2 (refine st (h := O) ?_)
        refine gD (fun g36 => ?_) (fun g36 => ?_)
        · refine sg (h := O) ?_
          refine sg (h := O) ?_
          iterate 2 (refine st (h := O) ?_)
          refine gD (fun g40 => ?_) (fun g40 => ?_)
          · refine sg (h := sdFA) ?_
            refine sg (h := sdL) ?_
            refine sg (h := O) ?_
            iterate 2 (refine st (h := O) ?_)
            refine gD (fun g45 => ?_) (fun g45 => ?_)
            · refine sg (h := sdFA) ?_
              refine sg (h := sdL) ?_
              iterate 2 (refine sg (h := O) ?_)
              iterate 2 (refine st (h := O) ?_)
              refine nl ?_
              repeat refine J.dropF ?_
              first
                | exact absurd g23 (by decide)
                | exact absurd rfl g27
                | exact absurd rfl g31
                | exact absurd rfl g36
                | exact absurd rfl g40
                | exact absurd hu g45
                | (refine rt ⟨congrArg Value.bool ?_, rfl⟩
                   rw [hx]
                   rfl)
            · refine sp ?_
              iterate 3 (refine sp ?_)
              iterate 2 (refine st (h := O) ?_)
              refine nl ?_
              repeat refine J.dropF ?_
              first
                | exact absurd g23 (by decide)
                | exact absurd rfl g27
                | exact absurd rfl g31
                | exact absurd rfl g36
                | exact absurd rfl g40
                | exact absurd hu g45
                | (refine rt ⟨congrArg Value.bool ?_, rfl⟩
                   rw [hx]
                   rfl)
          · refine sp ?_
            iterate 2 (refine sp ?_)
            iterate 2 (refine st (h := O) ?_)
            iterate 4 (refine sp ?_)
            iterate 2 (refine st (h := O) ?_)
            refine nl ?_
            repeat refine J.dropF ?_
            first
              | exact absurd g23 (by decide)
              | exact absurd rfl g27
              | exact absurd rfl g31
              | exact absurd rfl g36
              | exact absurd rfl g40
              | exact absurd hu g45
              | (refine rt ⟨congrArg Value.bool ?_, rfl⟩
                 rw [hx]
                 rfl)
        · refine sp ?_
          refine sp ?_
          iterate 2 (refine st (h := O) ?_)
          iterate 3 (refine sp ?_)
          iterate 2 (refine st (h := O) ?_)
          iterate 4 (refine sp ?_)
          iterate 2 (refine st (h := O) ?_)
          refine nl ?_
          repeat refine J.dropF ?_
          first
            | exact absurd g23 (by decide)
            | exact absurd rfl g27
            | exact absurd rfl g31
            | exact absurd rfl g36
            | exact absurd rfl g40
            | exact absurd hu g45
            | (refine rt ⟨congrArg Value.bool ?_, rfl⟩
               rw [hx]
               rfl)
      · refine sp ?_
        iterate 2 (refine sp ?_)
        iterate 2 (refine st (h := O) ?_)
        iterate 2 (refine sp ?_)
        iterate 2 (refine st (h := O) ?_)
        iterate 3 (refine sp ?_)
        iterate 2 (refine st (h := O) ?_)
        iterate 4 (refine sp ?_)
        iterate 2 (refine st (h := O) ?_)
        refine nl ?_
        repeat refine J.dropF ?_
        first
          | exact absurd g23 (by decide)
          | exact absurd rfl g27
          | exact absurd rfl g31
          | exact absurd rfl g36
          | exact absurd rfl g40
          | exact absurd hu g45
          | (refine rt ⟨congrArg Value.bool ?_, rfl⟩
             rw [hx]
             rfl)
    · refine sp ?_
      refine sp ?_
      iterate 2 (refine st (h := O) ?_)
      iterate 3 (refine sp ?_)
      iterate 2 (refine st (h := O) ?_)
      iterate 2 (refine sp ?_)
      iterate 2 (refine st (h := O) ?_)
      iterate 3 (refine sp ?_)
      iterate 2 (refine st (h := O) ?_)
      iterate 4 (refine sp ?_)
      iterate 2 (refine st (h := O) ?_)
      refine nl ?_
      repeat refine J.dropF ?_
      first
        | exact absurd g23 (by decide)
        | exact absurd rfl g27
        | exact absurd rfl g31
        | exact absurd rfl g36
        | exact absurd rfl g40
        | exact absurd hu g45
        | (refine rt ⟨congrArg Value.bool ?_, rfl⟩
           rw [hx]
           rfl)
  · refine sp ?_
    refine sp ?_
    iterate 2 (refine st (h := O) ?_)
    iterate 2 (refine sp ?_)
    iterate 2 (refine st (h := O) ?_)
    iterate 3 (refine sp ?_)
    iterate 2 (refine st (h := O) ?_)
    iterate 2 (refine sp ?_)
    iterate 2 (refine st (h := O) ?_)
    iterate 3 (refine sp ?_)
    iterate 2 (refine st (h := O) ?_)
    iterate 4 (refine sp ?_)
    iterate 2 (refine st (h := O) ?_)
    refine nl ?_
    repeat refine J.dropF ?_
    first
      | exact absurd g23 (by decide)
      | exact absurd rfl g27
      | exact absurd rfl g31
      | exact absurd rfl g36
      | exact absurd rfl g40
      | exact absurd hu g45
      | (refine rt ⟨congrArg Value.bool ?_, rfl⟩
         rw [hx]
         rfl)

end Go.Proofs.Ytfcckfiipbdnkaa.Am
namespace Go.Proofs.Ytfcckfiipbdnkaa.Am
set_option linter.unusedSimpArgs false
set_option linter.unusedVariables false
open Go Go.RowKit
/-! Appending any number of told elements to an own row. -/
section
variable {X : Cx} {F : Mem} {L : Slots} {K : Own} {s : List SI} {ops : Array Oper} {o : Oper} {l : List Oper}
theorem apA {Θ : Tab} {ty ty' el : TypeId} {sx x : Operand} {d n c : Nat} {ti ti' tj : Ty} {xv : Value} {m : Nat} {olds news : List Value} {r : Row} (sz t u : Nat) (Lk : Slots) (Kk : Own) (happ0 : App X.P F K sz xv m news) (hpo : ∀ v ∈ olds, plain1 v = true) (hpn : ∀ v ∈ news, plain1 v = true)
    (hk : ∀ cap, n + m ≤ cap → cap ≤ 9223372036854775807 → JL X ops l s F ((d, .slice (some ⟨u, 0, some 0⟩) (n + m) cap) :: Lk) ((u, { elem := el, cs := olds ++ news, room := cap * sz, fz := r.fz, flat := true }) :: Kk))
    (hg : o.guard = none := by rfl) (ho : o.op = .call ⟨.builtin .append, #[sx, x], #[ty, ty']⟩ := by rfl) (hd : o.dst = some d := by rfl) (hN : d < X.N := by exact Nat.le_of_ble_eq_true rfl) (hθ : tabOk X.P Θ = true := by exact hT)
    (hi : Θ.lookup ty = some ti := by rfl) (hki : ti.k = .slice el := by rfl) (hi' : Θ.lookup ty' = some ti' := by rfl) (hk' : slB ti'.k = true := by rfl) (hj : Θ.lookup el = some tj := by rfl) (hz0 : tj.zero.length = tj.size := by rfl) (hsz : tj.size = sz := by rfl) (hz1 : 0 < tj.size := by exact Nat.le_of_ble_eq_true rfl)
    (hs : evO L sx = some (.slice (some ⟨u, 0, some 0⟩) n c) := by rfl) (hx : evO L x = some xv := by rfl) (hr : K.lookup u = some r := by rfl) (hcs : r.cs = olds := by rfl) (hLk : LSub Lk L := by repeat' first | exact trivial | refine And.intro rfl ?_) (hKk : KSub Kk K := by repeat' first | exact trivial | refine And.intro rfl ?_)
    (hn : olds.length = n * sz := by first | rfl | omega) (hroom : r.room = c * sz := by rfl) (hel : r.elem = el := by rfl) (hnc : n ≤ c := by first | exact Nat.le_of_ble_eq_true rfl | omega) (hcm : c ≤ 9223372036854775807 := by first | exact Nat.le_of_ble_eq_true rfl | omega)
    (h63 : n + m ≤ 9223372036854775807 := by omega) (hby : (n + m) * tj.bytes ≤ 140737488355328 := by (dsimp only; omega))
    (hL : ntL t L = true := by rfl) (hK : ntK t K = true := by rfl) (hD : X.D.contains t = false := by rfl) (hDu : X.D.contains u = false := by rfl) (hdk : (Lk.all fun x => x.1 != d) = true := by rfl) (hKu : ntK u Kk = true := by rfl) (hKt : ntK t Kk = true := by rfl) (hLu : ntL u Lk = true := by rfl) : JL X ops (o :: l) s F L K := by
  rcases Nat.eq_zero_or_pos m with hz | hz
  · subst hz
    have hnw : news = [] := List.eq_nil_of_length_eq_zero (by rw [happ0.len, Nat.zero_mul])
    subst hnw
    have happ : App X.P F K tj.size xv 0 [] := by rw [hsz]; exact happ0
    refine ap0 ?_ hg ho hd hN hθ hi hki hi' hk' hj hs hx happ hnc
    have h1 := hk c (by simpa using hnc) hcm
    rw [List.append_nil, Nat.add_zero] at h1
    have h2 : JL X ops l s F ((d, .slice (some ⟨u, 0, some 0⟩) n c) :: Lk) ((u, { r with cs := olds }) :: Kk) := by
      refine JL.flat hpo ?_
      rw [← hel] at h1
      have e : r.room = c * sz := hroom
      rw [← e] at h1
      exact h1
    refine JL.weak (hLk.cons hdk) ?_ h2
    refine KSub.of_all ?_ ?_
    · have := hKk.tags
      simp only [List.map_cons, List.nodup_cons]
      refine ⟨fun hm => ?_, this⟩
      obtain ⟨y, hy, e⟩ := List.mem_map.1 hm
      have h2 := List.all_eq_true.1 hKu y hy
      simp only [Bool.and_eq_true, bne_iff_ne, ne_eq] at h2
      exact h2.1 e
    · intro y hy
      rcases List.mem_cons.1 hy with rfl | hy
      · rw [hr, ← hcs]
      · exact hKk.mem y hy
  · have happ : App X.P F K tj.size xv m news := by rw [hsz]; exact happ0
    have hall : news.all plain1 = true := List.all_eq_true.2 hpn
    have hnn : ∀ t, news.all (nt1 t) = true := fun t => List.all_eq_true.2 fun v hv => nt1_plain t (hpn v hv)
    have hon : ∀ t, olds.all (nt1 t) = true := fun t => List.all_eq_true.2 fun v hv => nt1_plain t (hpo v hv)
    refine apO (m := m) (news := news) t u Lk Kk ?_ hg ho hd hN hθ hi hki hi' hk' hj hz0 hz1 hs hx hr happ hLk hKk (by rw [hsz]; exact hroom) hel (by rw [hcs, hn, hsz]) hnc hcm hz h63 hby (fun _ => hall) hL hK (hnn t) hD hDu hdk hKu hKt hLu (by rw [hcs, List.all_append, hon, hnn]; simp)
    intro cap hc1 hc2
    rw [hcs, hsz]
    exact JL.flat (fun v hv => (List.mem_append.1 hv).elim (hpo v) (hpn v)) (hk cap hc1 hc2)
theorem apA0 {Θ : Tab} {ty ty' el : TypeId} {sx x : Operand} {d c : Nat} {ti ti' tj : Ty} {xv : Value} {m : Nat} {news : List Value} {r : Row} (sz t u : Nat) (Lk : Slots) (Kk : Own) (happ0 : App X.P F K sz xv m news) (hpn : ∀ v ∈ news, plain1 v = true)
    (hk : ∀ cap, m ≤ cap → cap ≤ 9223372036854775807 → JL X ops l s F ((d, .slice (some ⟨u, 0, some 0⟩) (m) cap) :: Lk) ((u, { elem := el, cs := news, room := cap * sz, fz := r.fz, flat := true }) :: Kk))
    (hg : o.guard = none := by rfl) (ho : o.op = .call ⟨.builtin .append, #[sx, x], #[ty, ty']⟩ := by rfl) (hd : o.dst = some d := by rfl) (hN : d < X.N := by exact Nat.le_of_ble_eq_true rfl) (hθ : tabOk X.P Θ = true := by exact hT)
    (hi : Θ.lookup ty = some ti := by rfl) (hki : ti.k = .slice el := by rfl) (hi' : Θ.lookup ty' = some ti' := by rfl) (hk' : slB ti'.k = true := by rfl) (hj : Θ.lookup el = some tj := by rfl) (hz0 : tj.zero.length = tj.size := by rfl) (hsz : tj.size = sz := by rfl) (hz1 : 0 < tj.size := by exact Nat.le_of_ble_eq_true rfl)
    (hs : evO L sx = some (.slice (some ⟨u, 0, some 0⟩) 0 c) := by rfl) (hx : evO L x = some xv := by rfl) (hr : K.lookup u = some r := by rfl) (hcs : r.cs = [] := by rfl) (hLk : LSub Lk L := by repeat' first | exact trivial | refine And.intro rfl ?_) (hKk : KSub Kk K := by repeat' first | exact trivial | refine And.intro rfl ?_)
    (hroom : r.room = c * sz := by rfl) (hel : r.elem = el := by rfl) (hcm : c ≤ 9223372036854775807 := by first | exact Nat.le_of_ble_eq_true rfl | omega)
    (h63 : m ≤ 9223372036854775807 := by omega) (hby : m * tj.bytes ≤ 140737488355328 := by (dsimp only; omega))
    (hL : ntL t L = true := by rfl) (hK : ntK t K = true := by rfl) (hD : X.D.contains t = false := by rfl) (hDu : X.D.contains u = false := by rfl) (hdk : (Lk.all fun x => x.1 != d) = true := by rfl) (hKu : ntK u Kk = true := by rfl) (hKt : ntK t Kk = true := by rfl) (hLu : ntL u Lk = true := by rfl) : JL X ops (o :: l) s F L K := by
  refine apA (n := 0) (olds := []) sz t u Lk Kk happ0 (fun v hv => by cases hv) hpn (fun cap h1 h2 => ?_) hg ho hd hN hθ hi hki hi' hk' hj hz0 hsz hz1 hs hx hr hcs hLk hKk (by simp) hroom hel (Nat.zero_le _) hcm (by omega) (by rw [Nat.zero_add]; exact hby) hL hK hD hDu hdk hKu hKt hLu
  have := hk cap (by omega) h2
  rw [Nat.zero_add, List.nil_append]
  exact this
end
end Go.Proofs.Ytfcckfiipbdnkaa.Am
namespace Go.Proofs.Ytfcckfiipbdnkaa.Am
set_option linter.unusedSimpArgs false
set_option linter.unusedVariables false
set_option maxRecDepth 100000
set_option maxHeartbeats 4000000
open Go Go.RowKit
theorem tbV_length : ∀ l : List Tb, (tbV l).length = l.length * 2
  | [] => rfl
  | x :: l => by
    have := tbV_length l
    simp only [tbV, List.map_cons, List.flatten_cons, List.length_append, List.length_cons, List.length_nil] at this ⊢
    omega
theorem tbV_pl (l : List Tb) : ∀ v ∈ tbV l, plain1 v = true := fun v hv => by
  obtain ⟨cs, hcs, hv⟩ := List.mem_flatten.1 hv
  obtain ⟨x, _, rfl⟩ := List.mem_map.1 hcs
  simp only [List.mem_cons, List.not_mem_nil, or_false] at hv
  rcases hv with rfl | rfl <;> rfl
theorem tbV_one (l : List Tb) : ∀ v ∈ tbV l, v.oneCell' = true := fun v hv => by
  obtain ⟨cs, hcs, hv⟩ := List.mem_flatten.1 hv
  obtain ⟨x, _, rfl⟩ := List.mem_map.1 hcs
  simp only [List.mem_cons, List.not_mem_nil, or_false] at hv
  rcases hv with rfl | rfl <;> rfl
theorem tbV_get : ∀ (l : List Tb) (j : Nat) (u : Value), (tbV l)[j]? = some u → ∃ (i : Nat) (hi : i < l.length), (j = i * 2 ∧ u = .string (l[i]'hi).1) ∨ (j = i * 2 + 1 ∧ u = .string (l[i]'hi).2)
  | [], j, u, h => by simp [tbV] at h
  | x :: l, 0, u, h => by
    have h' : some (Value.string x.1) = some u := h
    exact ⟨0, Nat.zero_lt_succ _, .inl ⟨rfl, (Option.some.inj h').symm⟩⟩
  | x :: l, 1, u, h => by
    have h' : some (Value.string x.2) = some u := h
    exact ⟨0, Nat.zero_lt_succ _, .inr ⟨rfl, (Option.some.inj h').symm⟩⟩
  | x :: l, j + 2, u, h => by
    have h' : (tbV l)[j]? = some u := h
    obtain ⟨i, hi, h2⟩ := tbV_get l j u h'
    refine ⟨i + 1, Nat.succ_lt_succ hi, h2.imp (fun ⟨e1, e2⟩ => ⟨by omega, e2⟩) (fun ⟨e1, e2⟩ => ⟨by omega, e2⟩)⟩
theorem TIx.le {F F' : Mem} {a : Option Addr} {l : List Tb} (h : TIx F a l) (hl : F.le F') : TIx F' a l := ⟨h.pl, h.h63, fun hp => by
  obtain ⟨b, off, e, hr⟩ := h.rd hp
  refine ⟨b, off, e, fun i hi => ⟨fun K => ?_, hl _ _ (hr i hi).2.1, hl _ _ (hr i hi).2.2⟩⟩
  exact lookN_le hl ((hr i hi).1 K)⟩
theorem TIx.app {P : Program} {F : Mem} {K : Own} {a : Option Addr} {l : List Tb} (h : TIx F a l) (c : Nat) : App P F K 2 (.slice a l.length c) l.length (tbV l) := by
  rcases Nat.eq_zero_or_pos l.length with hz | hz
  · obtain rfl : l = [] := List.eq_nil_of_length_eq_zero hz
    exact h.pl.app0 2 c
  · obtain ⟨b, off, rfl, hr⟩ := h.rd hz
    refine App.slice ?_ (tbV_one l) (tbV_length l)
    rw [← tbV_length]
    show lookN F ⟨b, off, none⟩ _ = _
    refine lookN_of fun j v hv => ?_
    obtain ⟨i, hi, ⟨rfl, rfl⟩ | ⟨rfl, rfl⟩⟩ := tbV_get l j v hv
    · exact (hr i hi).2.1
    · exact (hr i hi).2.2
theorem Val.tbs {ι : Nat → Nat} {K : Own} {F : Mem} (h : Val ι K F) {t c : Nat} {r : Row} {l : List Tb} (hr : K.lookup t = some r) (hcs : r.cs = tbV l) (hl : l.length ≤ 9223372036854775807) : kTb.S (push ι K F) (.slice (some ⟨ι t, 0, none⟩) l.length c) l := by
  refine .inl ⟨_, 0, c, rfl, hl, fun i x hx => ⟨[.string x.1, .string x.2], ?_, [.string x.1], [.string x.2], rfl, rfl, rfl⟩⟩
  obtain ⟨e1, e2⟩ := tbV_at l i x hx
  have q1 := h.look hr (by rw [hcs]; exact e1)
  have q2 := h.look hr (by rw [hcs]; exact e2)
  refine lookN_of (cs := [.string x.1, .string x.2]) fun j v hv => ?_
  rcases j with _ | _ | j
  · simp only [List.getElem?_cons_zero, Option.some.injEq] at hv
    subst hv
    rw [Nat.zero_add]; exact q1
  · simp only [Nat.zero_add, List.getElem?_cons_succ, List.getElem?_cons_zero, Option.some.injEq] at hv
    subst hv
    rw [Nat.zero_add]; exact q2
  · simp at hv
/-- how metrics that may be missing are given back -/
theorem RedMet.told {o : Option Met} {u : Value} {Y : List (Nat × Row)} (h : RedMet o u Y) {G : Mem} (hG : Rd G Y) : ∃ ga gc ha hc, u = .tuple #[(o.getD met0).v ga gc ha hc, .int .i64 (if o.isSome then 0 else 90)] ∧ RIx G ga (o.getD met0).adv ∧ RIx G ha (o.getD met0).bear := by
  cases o with
  | none => exact ⟨none, 0, none, 0, h, RIx.none G, RIx.none G⟩
  | some m =>
    obtain ⟨b, c, b', c', e, hR⟩ := h
    exact ⟨_, c, _, c', e, (hR G hG).1, (hR G hG).2⟩
theorem rSelf_C (F : Mem) (m : Met) (ga ha ga' ha' : Option Addr) (gc hc gc' hc' : Nat) (hga : RIx F ga m.adv) (hha : RIx F ha m.bear) (hga' : RIx F ga' m.adv) (hha' : RIx F ha' m.bear) : C0 Try.prog 12 [m.v ga gc ha hc, m.v ga' gc' ha' hc'] F (.bool true) := by
  have := rSame_C F m m ga ha ga' ha' gc hc gc' hc' hga hha hga' hha'
  rwa [decide_eq_true m.eqv_rfl] at this
theorem selfT_C (F : Mem) (v u : Value) (l : List Tb) (hv : kTb.S F v l) (hu : kTb.S F u l) : C0 Try.prog 13 [v, u] F (.bool true) := by
  have := sameT_C F v u l l hv hu
  rwa [decide_eq_true rfl] at this
theorem law3_C (F : Mem) (v : Value) (l : List Tb) (hv : kTb.S F v l) (hs : ∀ x ∈ l, x.1.size ≤ 140737488355328 ∧ x.2.size ≤ 140737488355328) (hb : l.length * 32 ≤ 140737488355328) : C0 Try.prog 3 [v] F (.bool true) := by
  obtain ⟨va, vc, rfl, ha⟩ := kTb_ix hv
  have hp := ha.pl
  generalize hw : readD l = o
  refine C.go hT Try.func3 Try.ntmps3 ?_
  refine sq ?_
  refine rg ?_
  refine st (h := O) ?_
  refine nl ?_
  iterate 2 (refine sq ?_)
  refine rg ?_
  refine st (h := O) ?_
  refine cl (h := by exact fun ι hV hl => (long_C _ _ l (hv.le hl) hs).ofR (arg1 (hp.rV ι _ _))) ?_
  refine nl ?_
  refine cB (fun c0 => ?_) (fun c0 => ?_)
  · refine sq ?_
    refine rg ?_
    refine cl (h := by exact fun ι hV hl => wakes_C _) ?_
    refine st (h := O) ?_
    refine nl ?_
    repeat refine J.dropF ?_
    first
      | exact rt ⟨rfl, rfl⟩
      | exact absurd rfl g32
      | exact absurd g27 (by decide)
      | exact absurd g37 (by decide)
  · refine sk ?_
    refine sq ?_
    refine rg ?_
    refine sl (hL := by simp [ntL, ntV, nt2, argL, hp.nt, nt1_b]) ?_
    refine st (h := O) ?_
    refine apA0 2 1013 11 [(0, _)] [] (ha.app vc) (tbV_pl l) ?_ (hL := by simp [ntL, ntV, nt2, argL, hp.nt, nt1_b, nt1_o]) (hLu := by simp [ntL, ntV, nt2, argL, hp.nt])
    intro cap hc1 hc2
    refine st (h := O) ?_
    refine nl ?_
    refine sq ?_
    refine J.weak (L0 := [(0, _), (3, _)]) (K0 := [(11, _)]) (by exact ⟨rfl, rfl, trivial⟩) (by exact ⟨rfl, rfl, trivial⟩) ?_
    refine rg ?_
    refine st (h := O) ?_
    refine clC (h := by exact fun ι hV hl => mRead_C _ _ l (Val.tbs hV rfl rfl ha.h63) (fun x hx => (hs x hx).2)) ?_
    intro u1 Y1 hQ1 hv1 hp1 hN1
    rw [hw] at hQ1
    obtain ⟨ga, gc, gb, gd, rfl, hA1, hB1⟩ := hQ1.told hN1.rows
    have hv1' := hv.le hN1.le
    iterate 3 (refine st (h := O) ?_)
    refine al (hL := by simp [ntL, ntV, nt2, argL, Met.v, nt1_i, nt1_b, nt1_o, hp.nt, hA1.pl.nt, hB1.pl.nt]) ?_
    refine so ?_
    refine JL.flat (by exact Met.pl _ hA1.pl hB1.pl _ _) ?_
    refine st (h := O) ?_
    refine nl ?_
    refine sq ?_
    refine J.weak (L0 := [(0, _), (3, _), (4, _), (5, _)]) (K0 := [(4, _), (11, _)]) (by exact ⟨rfl, rfl, rfl, rfl, trivial⟩) (by exact ⟨rfl, rfl, rfl, rfl, trivial⟩) ?_
    refine rg ?_
    refine st (h := O) ?_
    refine clC (h := by exact fun ι hV hl => (rRead_C _ _ l (hv1'.le hl) (fun x hx => (hs x hx).2)).ofR (arg1 (hp.rV ι _ _))) ?_
    intro u2 Y2 hQ2 hv2 hp2 hN2
    rw [hw] at hQ2
    obtain ⟨zA, zC, zB, zD, rfl, hA2, hB2⟩ := hQ2.told hN2.rows
    have hA1' := hA1.le hN2.le
    have hB1' := hB1.le hN2.le
    have hv2' := hv1'.le hN2.le
    iterate 3 (refine st (h := O) ?_)
    refine al (hL := by simp [ntL, ntV, nt2, argL, Met.v, nt1_i, nt1_b, nt1_o, nt1_p, hp.nt, hA1.pl.nt, hB1.pl.nt, hA2.pl.nt, hB2.pl.nt]) ?_
    refine so ?_
    refine JL.flat (by exact Met.pl _ hA2.pl hB2.pl _ _) ?_
    refine st (h := O) ?_
    refine nl ?_
    refine sq ?_
    refine J.weak (L0 := [(0, _), (3, _), (4, _), (5, _), (6, _), (7, _)]) (K0 := [(6, _), (4, _), (11, _)]) (by exact ⟨rfl, rfl, rfl, rfl, rfl, rfl, trivial⟩) (by exact ⟨rfl, rfl, rfl, rfl, rfl, rfl, trivial⟩) ?_
    refine rg ?_
    iterate 2 (refine st (h := sdLN) ?_)
    refine cl (h := by exact fun ι hV hl => (rSelf_C _ (o.getD met0) ga gb zA zB gc gd zC zD (hA1'.le hl) (hB1'.le hl) (hA2.le hl) (hB2.le hl)).ofR (arg2 (Met.rV _ hA1.pl hB1.pl _ _ ι) (Met.rV _ hA2.pl hB2.pl _ _ ι))) ?_
    refine st (h := O) ?_
    refine gB (fun g27 => ?_) (fun g27 => ?_)
    · refine sg (h := O) ?_
      iterate 2 (refine sg (h := O) ?_)
      iterate 2 (refine st (h := O) ?_)
      refine gD (fun g32 => ?_) (fun g32 => ?_)
      · refine sg (h := O) ?_
        refine sg (h := O) ?_
        refine clg (h := by exact fun ι hV hl => (selfT_C _ _ _ l (Val.tbs hV rfl rfl ha.h63) (hv2'.le hl)).ofR (arg2 rfl (hp.rV ι _ _))) ?_
        iterate 2 (refine st (h := O) ?_)
        refine gB (fun g37 => ?_) (fun g37 => ?_)
        · refine clg (h := by exact fun ι hV hl => wakes_C _) ?_
          iterate 2 (refine st (h := O) ?_)
          refine nl ?_
          repeat refine J.dropF ?_
          first
            | exact rt ⟨rfl, rfl⟩
            | exact absurd rfl g32
            | exact absurd g27 (by decide)
            | exact absurd g37 (by decide)
        · refine sp ?_
          iterate 2 (refine st (h := O) ?_)
          refine nl ?_
          repeat refine J.dropF ?_
          first
            | exact rt ⟨rfl, rfl⟩
            | exact absurd rfl g32
            | exact absurd g27 (by decide)
            | exact absurd g37 (by decide)
      · refine sp ?_
        iterate 2 (refine sp ?_)
        iterate 2 (refine st (h := O) ?_)
        refine sp ?_
        iterate 2 (refine st (h := O) ?_)
        refine nl ?_
        repeat refine J.dropF ?_
        first
          | exact rt ⟨rfl, rfl⟩
          | exact absurd rfl g32
          | exact absurd g27 (by decide)
          | exact absurd g37 (by decide)
    · refine sp ?_
      iterate 2 (refine sp ?_)
      iterate 2 (refine st (h := O) ?_)
      iterate 3 (refine sp ?_)
      iterate 2 (refine st (h := O) ?_)
      refine sp ?_
      iterate 2 (refine st (h := O) ?_)
      refine nl ?_
      repeat refine J.dropF ?_
      first
        | exact rt ⟨rfl, rfl⟩
        | exact absurd rfl g32
        | exact absurd g27 (by decide)
        | exact absurd g37 (by decide)

end Go.Proofs.Ytfcckfiipbdnkaa.Am
namespace Go.Proofs.Ytfcckfiipbdnkaa.Am
set_option linter.unusedSimpArgs false
set_option linter.unusedVariables false
open Go Go.RowKit
/-! Arrays of numbers that are handed in. -/
def Knd.arr (j : IntKind) (n : Nat) : Knd (List Int) where
  sz := n
  R _ cs xs := xs.length = n ∧ cs = xs.map (.int j)
  len h := by obtain ⟨h1, rfl⟩ := h; simpa using h1
  le _ h := h
section
variable {H : Type} {enc : TypeId × Value → H} {P : Program} {W : World}
theorem opens_arr {t e : TypeId} {n : Nat} {k : IntKind} (ht : P.underlying t = some (.array n e)) (he : P.underlying e = some (.int k)) (hc : P.cellsOf e = 1) (hct : P.cellsOf t = n) : Opens enc P W t (Knd.arr k n) (fun _ => True) := by
  intro fuel cs y hy _
  obtain ⟨ys, m, _, rfl, hl, hyl, hx⟩ := DataW.trod_array ht hy
  rw [hct] at hl
  obtain ⟨xs, hxl, hxs⟩ := pick_list (Q := fun i (x : Int) => cs[i]? = some (.int k x)) n (fun i hi => by
    have h1 := hx i hi
    rw [hc, Nat.mul_one, List.getElem?_eq_getElem (by omega)] at h1
    obtain ⟨z, hz, _, _⟩ := DataW.trod_int he h1
    refine ⟨z, ?_⟩
    have h0 := congrArg (·[0]?) hz
    simpa using h0)
  have e : cs = xs.map (.int k) := by
    apply List.ext_getElem?
    intro i
    rcases Nat.lt_or_ge i n with h | h
    · have hi : i < xs.length := by omega
      rw [hxs i _ (List.getElem?_eq_getElem hi), List.getElem?_map, List.getElem?_eq_getElem hi]
      rfl
    · rw [List.getElem?_eq_none (by omega), List.getElem?_eq_none (by simp; omega)]
  refine ⟨xs, ⟨hxl, ?_⟩, fun u hu => ?_, trivial⟩
  · rw [e, List.map_map]
    exact List.map_congr_left fun x _ => rfl
  · rw [e] at hu
    obtain ⟨x, _, rfl⟩ := List.mem_map.1 hu
    rfl
end
theorem wf_i64 {n : Int} (h : (Lit.int .i64 n).wf = true) : i64ok n := bounds_i64 h
end Go.Proofs.Ytfcckfiipbdnkaa.Am
namespace Go.Proofs.Ytfcckfiipbdnkaa.Am
set_option linter.unusedSimpArgs false
set_option linter.unusedVariables false
set_option maxRecDepth 100000
set_option maxHeartbeats 4000000
open Go Go.RowKit
def kMet := (Knd.int .i64).pair ((Knd.int .i64).pair ((Knd.int .i64).pair ((Knd.int .i64).pair ((Knd.arr .i64 4).pair (Knd.bool.pair ((Knd.int .i64).slice.pair (Knd.int .i64).slice))))))
section
variable {H : Type} {enc : TypeId × Value → H} {W : World}
theorem opTb : Opens enc Try.prog W 46 kTb (fun x => x.1.size ≤ 140737488351232 ∧ x.2.size ≤ 140737488351232) :=
  opens_struct Try.underlying46 (by kernel_rfl) (opensF_cons (opens_string Try.underlying9) (opensF_one (opens_string Try.underlying9)))
theorem opI : Opens enc Try.prog W 3 (Knd.int .i64) i64ok := opens_weak (opens_int Try.underlying3) fun _ h => wf_i64 h
theorem opIs : Opens enc Try.prog W 26 (Knd.int .i64).slice (fun xs => (∀ x ∈ xs, i64ok x) ∧ xs.length * 8 ≤ 140737488351232) := opens_slice 8 Try.underlying26 (by kernel_rfl) (by kernel_rfl) (by decide) opI
theorem opMet : Opens enc Try.prog W 28 kMet (fun p => i64ok p.1 ∧ i64ok p.2.1 ∧ i64ok p.2.2.1 ∧ i64ok p.2.2.2.1 ∧ True ∧ True ∧ ((∀ x ∈ p.2.2.2.2.2.2.1, i64ok x) ∧ p.2.2.2.2.2.2.1.length * 8 ≤ 140737488351232) ∧ ((∀ x ∈ p.2.2.2.2.2.2.2, i64ok x) ∧ p.2.2.2.2.2.2.2.length * 8 ≤ 140737488351232)) :=
  opens_weak (opens_struct Try.underlying28 (by kernel_rfl) (opensF_cons opI (opensF_cons opI (opensF_cons opI (opensF_cons opI (opensF_cons (opens_arr (t := 25) (n := 4) Try.underlying25 Try.underlying3 (by kernel_rfl) (by kernel_rfl)) (opensF_cons (opens_bool Try.underlying4) (opensF_cons opIs (opensF_one opIs))))))))) fun _ h => h
end
theorem RGl.ix {F : Mem} {g : Value} {xs : List Int} (h : RGl F g xs) : ∃ a c, g = .slice a xs.length c ∧ RIx F a xs := by
  rcases h with h | ⟨b, o, s, rfl, rfl⟩
  · exact RIx.ofInts h
  · exact ⟨_, 0, rfl, .inr (.inr ⟨b, o, s, rfl⟩), by simp, fun h => by simp at h⟩
theorem Met.ofK {F : Mem} {cs : List Value} {p} (h : kMet.R F cs p) : ∃ (m : Met) (ga ha : Option Addr) (gc hc : Nat), Value.agg ⟨cs⟩ = m.v ga gc ha hc ∧ RIx F ga m.adv ∧ RIx F ha m.bear ∧ m.up = p.1 ∧ m.adv = p.2.2.2.2.2.2.1 ∧ m.bear = p.2.2.2.2.2.2.2 := by
  obtain ⟨x1, x2, x3, x4, x5, x6, x7, x8⟩ := p
  obtain ⟨c1, r1, rfl, rfl, c2, r2, rfl, rfl, c3, r3, rfl, rfl, c4, r4, rfl, rfl, c5, r5, rfl, ⟨h5, rfl⟩, c6, r6, rfl, rfl, c7, r7, rfl, h7, h8⟩ := h
  obtain ⟨g7, rfl, k7⟩ := RGl.ofK h7
  obtain ⟨g8, rfl, k8⟩ := RGl.ofK h8
  obtain ⟨a7, n7, rfl, i7⟩ := k7.ix
  obtain ⟨a8, n8, rfl, i8⟩ := k8.ix
  match x5, h5 with
  | [b0, b1, b2, b3], _ =>
    exact ⟨⟨x1, x2, x3, x4, fun j => [b0, b1, b2, b3].getD j 0, x6, x7, x8⟩, a7, a8, n7, n8, rfl, i7, i8, rfl, rfl, rfl⟩

end Go.Proofs.Ytfcckfiipbdnkaa.Am
namespace Go.Proofs.Ytfcckfiipbdnkaa.Am
set_option linter.unusedSimpArgs false
set_option linter.unusedVariables false
set_option maxRecDepth 100000
set_option maxHeartbeats 4000000
open Go Go.RowKit
theorem RedTb.told {o : Option (List Tb)} {u : Value} {Y : List (Nat × Row)} (h : RedTb o u Y) {G : Mem} (hG : Rd G Y) : ∃ a c, u = .tuple #[.slice a (o.getD []).length c, .int .i64 (if o.isSome then 0 else 90)] ∧ TIx G a (o.getD []) ∧ kTb.S G (.slice a (o.getD []).length c) (o.getD []) := by
  cases o with
  | none => exact ⟨none, 0, h, ⟨.inl rfl, by simp, fun h => absurd h (Nat.lt_irrefl 0)⟩, .inr ⟨rfl, rfl⟩⟩
  | some l =>
    obtain ⟨b, e, hR⟩ := h
    have hS := hR G hG
    obtain ⟨a, c, e1, hA⟩ := kTb_ix hS
    simp only [Value.slice.injEq] at e1
    obtain ⟨rfl, _, rfl⟩ := e1
    exact ⟨_, _, e, hA, hS⟩
theorem law4_C (F : Mem) (m : Met) (ga ha : Option Addr) (gc hc : Nat) (hga : RIx F ga m.adv) (hha : RIx F ha m.bear) : C0 Try.prog 4 [m.v ga gc ha hc] F (.bool true) := by
  have hp := hga.pl
  have hq := hha.pl
  generalize hw : bldD m = o
  unfold Met.v
  refine C.go hT Try.func4 Try.ntmps4 ?_
  refine sq ?_
  refine rg ?_
  refine bx (hL := by simp [ntL, ntV, nt2, argL, nt1_i, nt1_b, hp.nt, hq.nt]) ?_
  refine JL.flat (m.pl hp hq gc hc) ?_
  refine st (h := O) ?_
  refine nl ?_
  iterate 2 (refine sq ?_)
  refine rg ?_
  refine st (h := sdLN) ?_
  refine cl (h := by exact fun ι hV hl => (mLarge_C _ m ga ha gc hc hp hq).ofR (arg1 (m.rV hp hq gc hc ι))) ?_
  refine nl ?_
  refine cB (fun c0 => ?_) (fun c0 => ?_)
  · refine sq ?_
    refine rg ?_
    refine cl (h := by exact fun ι hV hl => wakes_C _) ?_
    refine st (h := O) ?_
    refine nl ?_
    repeat refine J.dropF ?_
    first
      | exact rt ⟨rfl, rfl⟩
      | exact absurd g43 (by decide)
      | exact absurd rfl g38
      | exact absurd g33 (by decide)
      | (exfalso; simp at g28; done)
  · have hlen : m.adv.length ≤ 5000 ∧ m.bear.length ≤ 5000 := by simp only [decide_eq_false_iff_not] at c0; omega
    refine sk ?_
    refine sq ?_
    refine J.weak (L0 := [(1, _)]) (K0 := [(1, _)]) (by exact ⟨rfl, trivial⟩) (by exact ⟨rfl, rfl, trivial⟩) ?_
    refine rg ?_
    refine st (h := sdLN) ?_
    refine clC (h := by exact fun ι hV hl => (mCopy_C _ m ga ha gc hc (hga.le hl) (hha.le hl) (by omega) (by omega)).ofR (arg1 (m.rV hp hq gc hc ι))) ?_
    intro u1 Y1 hQ1 hv1 hp1 hN1
    obtain ⟨b1, b2, n1, n2, rfl, hR1⟩ := hQ1
    obtain ⟨hA1, hB1⟩ := hR1 _ hN1.rows
    have hga1 := hga.le hN1.le
    have hha1 := hha.le hN1.le
    refine al (hL := by simp [ntL, ntV, nt2, argL, Met.v, cellsL, nt1_i, nt1_b, nt1_o, nt1_p, hp.nt, hq.nt, hA1.pl.nt, hB1.pl.nt]) ?_
    refine so ?_
    refine nl ?_
    refine sq ?_
    refine J.weak (L0 := [(1, _), (3, _)]) (K0 := [(3, _), (1, _)]) (by exact ⟨rfl, rfl, trivial⟩) (by exact ⟨rfl, rfl, rfl, rfl, trivial⟩) ?_
    refine rg ?_
    refine JL.flat (by exact Met.pl m hA1.pl hB1.pl _ _) ?_
    refine st (h := sdLN) ?_
    refine clC (h := by exact fun ι hV hl => (mBuild_C _ m _ _ _ _ (hA1.le hl) (hB1.le hl)).ofR (arg1 (m.rV hA1.pl hB1.pl _ _ ι))) ?_
    intro u2 Y2 hQ2 hv2 hp2 hN2
    rw [hw] at hQ2
    obtain ⟨a2, c2, rfl, hT2, hS2⟩ := hQ2.told hN2.rows
    have hA2 := hA1.le hN2.le
    have hB2 := hB1.le hN2.le
    have hga2 := hga1.le hN2.le
    have hha2 := hha1.le hN2.le
    iterate 5 (refine st (h := O) ?_)
    refine nl ?_
    refine sq ?_
    refine J.weak (L0 := [(1, _), (3, _), (4, _), (5, _)]) (K0 := [(3, _), (1, _)]) (by exact ⟨rfl, rfl, rfl, rfl, trivial⟩) (by exact ⟨rfl, rfl, rfl, rfl, trivial⟩) ?_
    refine rg ?_
    refine st (h := sdLN) ?_
    refine clC (h := by exact fun ι hV hl => (rBuild_C _ m ga ha gc hc (hga2.le hl) (hha2.le hl)).ofR (arg1 (m.rV hp hq gc hc ι))) ?_
    intro u3 Y3 hQ3 hv3 hp3 hN3
    rw [hw] at hQ3
    obtain ⟨a3, c3, rfl, hT3, hS3⟩ := hQ3.told hN3.rows
    have hA3 := hA2.le hN3.le
    have hB3 := hB2.le hN3.le
    have hga3 := hga2.le hN3.le
    have hha3 := hha2.le hN3.le
    have hS2' := hS2.le hN3.le
    iterate 5 (refine st (h := O) ?_)
    refine nl ?_
    refine sq ?_
    refine J.weak (L0 := [(1, _), (3, _), (4, _), (5, _), (6, _), (7, _)]) (K0 := [(3, _), (1, _)]) (by exact ⟨rfl, rfl, rfl, rfl, rfl, rfl, trivial⟩) (by exact ⟨rfl, rfl, rfl, rfl, trivial⟩) ?_
    refine dr 24 [3, 1] [0, 2, 1001, 1003, 4, 5, 6, 7, 1008, 9, 10, 11, 12, 13, 14, 15, 16, 17, 1018, 19, 20, 1021, 22, 23] ?_
    iterate 2 (refine dt (hv := by exact sdLN) ?_)
    refine dcl (hkp := by first | exact Kept.all | exact Kept.k0 | exact Kept.kY | exact Kept.kYY | exact Kept.kY3) (h := by exact fun ι hV hl => (mGood_C _ m _ _ _ _ (hA3.le hl) (hB3.le hl)).ofR (arg1 (m.rV hA1.pl hB1.pl _ _ ι))) ?_
    refine dcl (hkp := by first | exact Kept.all | exact Kept.k0 | exact Kept.kY | exact Kept.kYY | exact Kept.kY3) (h := by exact fun ι hV hl => (rGood_C _ m ga ha gc hc (hga3.le hl) (hha3.le hl)).ofR (arg1 (m.rV hp hq gc hc ι))) ?_
    refine dt (hv := by exact sbEq) ?_
    refine dt (hv := by exact O) ?_
    refine dgB (fun g28 => ?_) (fun g28 => ?_)
    · refine dg (hv := by exact O) ?_
      refine dg (hv := by exact O) ?_
      refine dclg (hkp := by first | exact Kept.all | exact Kept.k0 | exact Kept.kY | exact Kept.kYY | exact Kept.kY3) (h := by exact fun ι hV hl => (selfT_C _ _ _ _ (hS2'.le hl) (hS3.le hl)).ofR (arg2 (hT2.pl.rV ι _ _) (hT3.pl.rV ι _ _))) ?_
      iterate 2 (refine dt (hv := by exact O) ?_)
      refine dgB (fun g33 => ?_) (fun g33 => ?_)
      · refine dg (hv := by exact O) ?_
        iterate 2 (refine dg (hv := by exact O) ?_)
        iterate 2 (refine dt (hv := by exact O) ?_)
        refine dgD (fun g38 => ?_) (fun g38 => ?_)
        · refine dg (hv := by exact sdLN) ?_
          refine dg (hv := by exact sdLN) ?_
          refine dclg (hkp := by first | exact Kept.all | exact Kept.k0 | exact Kept.kY | exact Kept.kYY | exact Kept.kY3) (h := by exact fun ι hV hl => (rSelf_C _ m _ _ ga ha _ _ gc hc (hA3.le hl) (hB3.le hl) (hga3.le hl) (hha3.le hl)).ofR (arg2 (m.rV hA1.pl hB1.pl _ _ ι) (m.rV hp hq gc hc ι))) ?_
          iterate 2 (refine dt (hv := by exact O) ?_)
          refine dgB (fun g43 => ?_) (fun g43 => ?_)
          · refine dclg (hkp := by first | exact Kept.all | exact Kept.k0 | exact Kept.kY | exact Kept.kYY | exact Kept.kY3) (h := by exact fun ι hV hl => wakes_C _) ?_
            iterate 2 (refine dt (hv := by exact O) ?_)
            refine dn ?_
            repeat refine J.dropF ?_
            first
              | exact rt ⟨rfl, rfl⟩
              | exact absurd g43 (by decide)
              | exact absurd rfl g38
              | exact absurd g33 (by decide)
              | (exfalso; simp at g28; done)
          · refine dpe (hkp := by first | exact Kept.all | exact Kept.k0 | exact Kept.kY | exact Kept.kYY | exact Kept.kY3) ?_
            iterate 2 (refine dt (hv := by exact O) ?_)
            refine dn ?_
            repeat refine J.dropF ?_
            first
              | exact rt ⟨rfl, rfl⟩
              | exact absurd g43 (by decide)
              | exact absurd rfl g38
              | exact absurd g33 (by decide)
              | (exfalso; simp at g28; done)
        · refine dp ?_
          refine dp ?_
          refine dpe (hkp := by first | exact Kept.all | exact Kept.k0 | exact Kept.kY | exact Kept.kYY | exact Kept.kY3) ?_
          iterate 2 (refine dt (hv := by exact O) ?_)
          refine dpe (hkp := by first | exact Kept.all | exact Kept.k0 | exact Kept.kY | exact Kept.kYY | exact Kept.kY3) ?_
          iterate 2 (refine dt (hv := by exact O) ?_)
          refine dn ?_
          repeat refine J.dropF ?_
          first
            | exact rt ⟨rfl, rfl⟩
            | exact absurd g43 (by decide)
            | exact absurd rfl g38
            | exact absurd g33 (by decide)
            | (exfalso; simp at g28; done)
      · refine dp ?_
        iterate 2 (refine dp ?_)
        iterate 2 (refine dt (hv := by exact O) ?_)
        iterate 2 (refine dp ?_)
        refine dpe (hkp := by first | exact Kept.all | exact Kept.k0 | exact Kept.kY | exact Kept.kYY | exact Kept.kY3) ?_
        iterate 2 (refine dt (hv := by exact O) ?_)
        refine dpe (hkp := by first | exact Kept.all | exact Kept.k0 | exact Kept.kY | exact Kept.kYY | exact Kept.kY3) ?_
        iterate 2 (refine dt (hv := by exact O) ?_)
        refine dn ?_
        repeat refine J.dropF ?_
        first
          | exact rt ⟨rfl, rfl⟩
          | exact absurd g43 (by decide)
          | exact absurd rfl g38
          | exact absurd g33 (by decide)
          | (exfalso; simp at g28; done)
    · refine dp ?_
      refine dp ?_
      refine dpe (hkp := by first | exact Kept.all | exact Kept.k0 | exact Kept.kY | exact Kept.kYY | exact Kept.kY3) ?_
      iterate 2 (refine dt (hv := by exact O) ?_)
      iterate 3 (refine dp ?_)
      iterate 2 (refine dt (hv := by exact O) ?_)
      iterate 2 (refine dp ?_)
      refine dpe (hkp := by first | exact Kept.all | exact Kept.k0 | exact Kept.kY | exact Kept.kYY | exact Kept.kY3) ?_
      iterate 2 (refine dt (hv := by exact O) ?_)
      refine dpe (hkp := by first | exact Kept.all | exact Kept.k0 | exact Kept.kY | exact Kept.kYY | exact Kept.kY3) ?_
      iterate 2 (refine dt (hv := by exact O) ?_)
      refine dn ?_
      repeat refine J.dropF ?_
      first
        | exact rt ⟨rfl, rfl⟩
        | exact absurd g43 (by decide)
        | exact absurd rfl g38
        | exact absurd g33 (by decide)
        | (exfalso; simp at g28; done)
theorem law5_C (F : Mem) (m : Met) (ga ha : Option Addr) (gc hc : Nat) (u size : Int) (hga : RIx F ga m.adv) (hha : RIx F ha m.bear) (hu : i64ok u) (hs : i64ok size) (hup : i64ok m.up) (hadv : ∀ x ∈ m.adv, i64ok x) : C0 Try.prog 5 [m.v ga gc ha hc, .int .i64 u, .int .i64 size] F (.bool true) := by
  have hp := hga.pl
  have hq := hha.pl
  unfold Met.v
  refine C.go hT Try.func5 Try.ntmps5 ?_
  refine sq ?_
  refine rg ?_
  refine bx (hL := by simp [ntL, ntV, nt2, argL, nt1_i, nt1_b, hp.nt, hq.nt]) ?_
  refine JL.flat (m.pl hp hq gc hc) ?_
  refine st (h := O) ?_
  refine nl ?_
  iterate 2 (refine sq ?_)
  refine rg ?_
  refine st (h := sdLN) ?_
  refine cl (h := by exact fun ι hV hl => (mLarge_C _ m ga ha gc hc hp hq).ofR (arg1 (m.rV hp hq gc hc ι))) ?_
  refine nl ?_
  refine cB (fun c0 => ?_) (fun c0 => ?_)
  · refine sq ?_
    refine rg ?_
    refine cl (h := by exact fun ι hV hl => wakes_C _) ?_
    refine st (h := O) ?_
    refine nl ?_
    repeat refine J.dropF ?_
    first
      | exact rt ⟨rfl, rfl⟩
      | exact absurd rfl g51
      | (exfalso; simp at g56; done)
      | exact absurd rfl g61
      | (exfalso; simp at g66; done)
  · have hlen : m.adv.length ≤ 5000 ∧ m.bear.length ≤ 5000 := by simp only [decide_eq_false_iff_not] at c0; omega
    refine sk ?_
    refine sq ?_
    refine J.weak (L0 := [(1, _), (2, _), (3, _)]) (K0 := [(3, _)]) (by exact ⟨rfl, rfl, rfl, trivial⟩) (by exact ⟨rfl, rfl, trivial⟩) ?_
    refine rg ?_
    refine st (h := sdLN) ?_
    refine clC (h := by exact fun ι hV hl => (mCopy_C _ m ga ha gc hc (hga.le hl) (hha.le hl) (by omega) (by omega)).ofR (arg1 (m.rV hp hq gc hc ι))) ?_
    intro u1 Y1 hQ1 hv1 hp1 hN1
    obtain ⟨b1, b2, n1, n2, rfl, hR1⟩ := hQ1
    obtain ⟨hA1, hB1⟩ := hR1 _ hN1.rows
    have hga1 := hga.le hN1.le
    have hha1 := hha.le hN1.le
    iterate 2 (refine st (h := O) ?_)
    refine cl (h := by exact fun ι hV hl => (mUnits_C _ m _ _ _ _ u size hA1.pl hB1.pl hu hs hup).ofR (arg3 (m.rV hA1.pl hB1.pl _ _ ι) rfl rfl)) ?_
    iterate 5 (refine st (h := O) ?_)
    refine nl ?_
    refine sq ?_
    refine J.weak (L0 := [(1, _), (2, _), (3, _), (7, _), (8, _)]) (K0 := [(3, _)]) (by exact ⟨rfl, rfl, rfl, rfl, rfl, trivial⟩) (by exact ⟨rfl, rfl, trivial⟩) ?_
    refine rg ?_
    refine st (h := sdLN) ?_
    iterate 2 (refine st (h := O) ?_)
    refine cl (h := by exact fun ι hV hl => (rUnits_C _ m ga ha gc hc u size hp hq hu hs hup).ofR (arg3 (m.rV hp hq gc hc ι) rfl rfl)) ?_
    iterate 5 (refine st (h := O) ?_)
    refine nl ?_
    refine sq ?_
    refine J.weak (L0 := [(1, _), (2, _), (3, _), (7, _), (8, _), (9, _), (10, _)]) (K0 := [(3, _)]) (by exact ⟨rfl, rfl, rfl, rfl, rfl, rfl, rfl, trivial⟩) (by exact ⟨rfl, rfl, trivial⟩) ?_
    refine rg ?_
    refine st (h := sdLN) ?_
    refine clC (h := by exact fun ι hV hl => (mCopy_C _ m ga ha gc hc (hga1.le hl) (hha1.le hl) (by omega) (by omega)).ofR (arg1 (m.rV hp hq gc hc ι))) ?_
    intro u2 Y2 hQ2 hv2 hp2 hN2
    obtain ⟨b3, b4, n3, n4, rfl, hR2⟩ := hQ2
    obtain ⟨hA2, hB2⟩ := hR2 _ hN2.rows
    have hga2 := hga1.le hN2.le
    iterate 2 (refine st (h := O) ?_)
    refine cl (h := by exact fun ι hV hl => (mWidth_C _ m _ _ _ _ u size (hA2.le hl) hB2.pl hadv hs hup).ofR (arg3 (m.rV hA2.pl hB2.pl _ _ ι) rfl rfl)) ?_
    iterate 5 (refine st (h := O) ?_)
    refine nl ?_
    refine sq ?_
    refine J.weak (L0 := [(1, _), (2, _), (3, _), (7, _), (8, _), (9, _), (10, _), (11, _), (12, _)]) (K0 := [(3, _)]) (by exact ⟨rfl, rfl, rfl, rfl, rfl, rfl, rfl, rfl, rfl, trivial⟩) (by exact ⟨rfl, rfl, trivial⟩) ?_
    refine rg ?_
    refine st (h := sdLN) ?_
    iterate 2 (refine st (h := O) ?_)
    refine cl (h := by exact fun ι hV hl => (rWidth_C _ m ga ha gc hc u size (hga2.le hl) hq hadv hs hup).ofR (arg3 (m.rV hp hq gc hc ι) rfl rfl)) ?_
    iterate 5 (refine st (h := O) ?_)
    refine nl ?_
    refine sq ?_
    refine J.weak (L0 := [(7, _), (8, _), (9, _), (10, _), (11, _), (12, _), (13, _), (14, _)]) (K0 := [(3, _)]) (by exact ⟨rfl, rfl, rfl, rfl, rfl, rfl, rfl, rfl, trivial⟩) (by exact ⟨rfl, rfl, trivial⟩) ?_
    refine rg ?_
    iterate 4 (refine st (h := O) ?_)
    refine gD (fun g51 => ?_) (fun g51 => ?_)
    · refine sg (h := O) ?_
      refine sg (h := O) ?_
      refine sg (h := sbEq) ?_
      iterate 2 (refine st (h := O) ?_)
      refine gB (fun g56 => ?_) (fun g56 => ?_)
      · refine sg (h := O) ?_
        iterate 2 (refine sg (h := O) ?_)
        iterate 2 (refine st (h := O) ?_)
        refine gD (fun g61 => ?_) (fun g61 => ?_)
        · refine sg (h := O) ?_
          refine sg (h := O) ?_
          refine sg (h := sbEq) ?_
          iterate 2 (refine st (h := O) ?_)
          refine gB (fun g66 => ?_) (fun g66 => ?_)
          · refine clg (h := by exact fun ι hV hl => wakes_C _) ?_
            iterate 2 (refine st (h := O) ?_)
            refine nl ?_
            repeat refine J.dropF ?_
            first
              | exact rt ⟨rfl, rfl⟩
              | exact absurd rfl g51
              | (exfalso; simp at g56; done)
              | exact absurd rfl g61
              | (exfalso; simp at g66; done)
          · refine sp ?_
            iterate 2 (refine st (h := O) ?_)
            refine nl ?_
            repeat refine J.dropF ?_
            first
              | exact rt ⟨rfl, rfl⟩
              | exact absurd rfl g51
              | (exfalso; simp at g56; done)
              | exact absurd rfl g61
              | (exfalso; simp at g66; done)
        · refine sp ?_
          iterate 2 (refine sp ?_)
          iterate 2 (refine st (h := O) ?_)
          refine sp ?_
          iterate 2 (refine st (h := O) ?_)
          refine nl ?_
          repeat refine J.dropF ?_
          first
            | exact rt ⟨rfl, rfl⟩
            | exact absurd rfl g51
            | (exfalso; simp at g56; done)
            | exact absurd rfl g61
            | (exfalso; simp at g66; done)
      · refine sp ?_
        iterate 2 (refine sp ?_)
        iterate 2 (refine st (h := O) ?_)
        iterate 3 (refine sp ?_)
        iterate 2 (refine st (h := O) ?_)
        refine sp ?_
        iterate 2 (refine st (h := O) ?_)
        refine nl ?_
        repeat refine J.dropF ?_
        first
          | exact rt ⟨rfl, rfl⟩
          | exact absurd rfl g51
          | (exfalso; simp at g56; done)
          | exact absurd rfl g61
          | (exfalso; simp at g66; done)
    · refine sp ?_
      iterate 2 (refine sp ?_)
      iterate 2 (refine st (h := O) ?_)
      iterate 3 (refine sp ?_)
      iterate 2 (refine st (h := O) ?_)
      iterate 3 (refine sp ?_)
      iterate 2 (refine st (h := O) ?_)
      refine sp ?_
      iterate 2 (refine st (h := O) ?_)
      refine nl ?_
      repeat refine J.dropF ?_
      first
        | exact rt ⟨rfl, rfl⟩
        | exact absurd rfl g51
        | (exfalso; simp at g56; done)
        | exact absurd rfl g61
        | (exfalso; simp at g66; done)
theorem law4_K {F : Mem} {cs : List Value} {p} (h : kMet.R F cs p) : C0 Try.prog 4 [.agg ⟨cs⟩] F (.bool true) := by
  obtain ⟨m, ga, ha, gc, hc, e, h1, h2, _⟩ := Met.ofK h
  rw [e]
  exact law4_C F m ga ha gc hc h1 h2
theorem law5_K {F : Mem} {cs : List Value} {p} {u size : Int} (h : kMet.R F cs p) (hup : i64ok p.1) (hadv : ∀ x ∈ p.2.2.2.2.2.2.1, i64ok x) (hu : i64ok u) (hs : i64ok size) : C0 Try.prog 5 [.agg ⟨cs⟩, .int .i64 u, .int .i64 size] F (.bool true) := by
  obtain ⟨m, ga, ha, gc, hc, e, h1, h2, e1, e2, _⟩ := Met.ofK h
  rw [e]
  exact law5_C F m ga ha gc hc u size h1 h2 hu hs (e1 ▸ hup) (e2 ▸ hadv)

end Go.Proofs.Ytfcckfiipbdnkaa.Am
namespace Go.Proofs.Ytfcckfiipbdnkaa.Am
set_option linter.unusedSimpArgs false
set_option linter.unusedVariables false
open Go Go.RowKit
/-! A row that a callee left becomes the call's own, whatever shows it. -/
/-- a row that a callee left becomes the call's own -/
theorem JL.adoptV {X : Cx} {F : Mem} {L : Slots} {K : Own} {s : List SI} {ops : Array Oper} {l : List Oper} {d t g : Nat} {r : Row} {Y : List (Nat × Row)} {v v' : Value} (hd : L.lookup d = some v) (hv : ∀ ι : Nat → Nat, ι t = g → cV ι v' = cV ι v) (hr : ∀ u ∈ r.cs, plain1 u = true) (hL : ntL t L = true) (hK : ntK t K = true) (hD : X.D.contains t = false)
    (h : JL X ops l s (F.add Y) ((d, v') :: L) ((t, { r with flat := true }) :: K)) : JL X ops l s (F.add ((g, r) :: Y)) L K := by
  intro ι a w hF hS
  have hx := hS.ext (g, r) (by simp [Mem.add])
  have hnd := hS.nodup
  simp only [Mem.add, List.cons_append, List.map_cons] at hnd
  have hagree : ∀ u ∈ X.D, upd ι t g u = ι u := fun u hu => upd_ne ι (fun e => by subst e; simp at hD; exact hD hu)
  have hmap : (K.map fun x => upd ι t g x.1) = K.map fun x => ι x.1 := List.map_congr_left fun x hx => upd_ne ι (hS.rowc (b := 0) hK hx).1
  refine JL.tr hagree (h (upd ι t g) a w ?_ ⟨hS.below, ?_, fun x hx2 => ?_, fun x hx2 => hS.ext x (by simp only [Mem.add] at hx2 ⊢; exact List.mem_cons_of_mem _ hx2)⟩)
  · have h1 := hF.nt (fun u hu => upd_ne ι (t := t) (b := g) hu) hL
    refine ⟨h1.size, h1.defers, fun s u hu => ?_⟩
    rw [List.lookup_cons] at hu
    split at hu
    · rename_i e
      have e1 : s = d := by simpa using e
      subst e1
      simp only [Option.some.injEq] at hu
      subst hu
      rw [hv _ (upd_eq ..)]
      exact h1.slot s _ hd
    · exact h1.slot s u hu
  · simp only [List.map_cons, List.cons_append, hmap, upd_eq, Mem.add, List.map_append] at hnd ⊢
    refine (List.Perm.nodup_iff ?_).1 hnd
    exact List.perm_middle
  · rcases List.mem_cons.1 hx2 with rfl | hx2
    · simp only [upd_eq]
      have e : ({ r with flat := true } : Row).c (upd ι t g) = { r.c (fun _ => 0) with flat := true } := by
        unfold Row.c
        have : r.cs.map (c1 (upd ι t g)) = r.cs.map (c1 fun _ => 0) := List.map_congr_left fun u hu => c1_plain _ _ (hr u hu)
        simp [this]
      refine ⟨hx.1, ?_, fun _ => hr⟩
      rw [e]
      exact hx.2
    · obtain ⟨h1, h2⟩ := hS.rowc (b := g) hK hx2
      obtain ⟨h3, h4, h5⟩ := hS.own x hx2
      rw [upd_ne ι h1, h2]
      exact ⟨h3, h4, h5⟩
theorem New.tail {F : Mem} {g : Nat × Row} {Y : List (Nat × Row)} (h : New F (g :: Y)) (hp : ∀ x ∈ Y, ∀ u ∈ x.2.cs, plain1 u = true) : New F Y := by
  have hnd : (Y.map Prod.fst ++ F.ch.map Prod.fst).Nodup := by
    have := h.nodup
    rw [List.map_cons, List.cons_append, List.nodup_cons] at this
    exact this.2
  have hids : ∀ x ∈ Y, F.w0.heap.size ≤ x.1 := fun x hx => h.ids x (List.mem_cons_of_mem _ hx)
  refine ⟨fun a v hv => ?_, fun x hx o u hu => ?_, hids, hnd⟩
  · have hlk : (¬ a.block < F.w0.heap.size) → (F.ch.lookup a.block).isSome = true → (Y ++ F.ch).lookup a.block = F.ch.lookup a.block := fun hlt hs => by
      refine lookup_append_right fun hm => ?_
      cases hf : F.ch.lookup a.block with
      | none => rw [hf] at hs; cases hs
      | some r' =>
        have hm' : a.block ∈ F.ch.map Prod.fst := List.mem_map.2 ⟨_, lookup_mem hf, rfl⟩
        exact absurd rfl ((List.nodup_append.1 hnd).2.2 _ hm _ hm')
    unfold look at hv
    show ((if a.block < F.w0.heap.size then (F.w0.cell? a).map e1 else ((Y ++ F.ch).lookup a.block).bind (cellAt · a.off))).bind (fun v => if plain1 v then some v else none) = some v
    by_cases hlt : a.block < F.w0.heap.size
    · rw [if_pos hlt] at hv ⊢; exact hv
    · rw [if_neg hlt] at hv ⊢
      cases hf : F.ch.lookup a.block with
      | none => rw [hf] at hv; simp at hv
      | some r' =>
        rw [hlk hlt (by rw [hf]; rfl)]
        exact hv
  · have := h.rows x (List.mem_cons_of_mem _ hx) o u hu
    have hne : (x.1 == g.1) = false := by
      have := h.nodup
      rw [List.map_cons, List.cons_append, List.nodup_cons] at this
      refine beq_eq_false_iff_ne.2 fun e => this.1 ?_
      rw [← e]
      exact List.mem_append_left _ (List.mem_map.2 ⟨x, hx, rfl⟩)
    have e : (g :: (Y ++ F.ch)).lookup x.1 = (Y ++ F.ch).lookup x.1 := by
      obtain ⟨g1, g2⟩ := g
      rw [List.lookup_cons, hne]
    simp only [look, Mem.add, List.cons_append, e] at this ⊢
    exact this
section
variable {X : Cx} {F : Mem} {L : Slots} {K : Own} {s : List SI} {ops : Array Oper} {o : Oper} {l : List Oper}
/-- a text's bytes, as an own row -/
theorem strB {Θ : Tab} {sty ty el : TypeId} {x : Operand} {d n : Nat} {sv : ByteArray} {ts ti tj : Ty} (ns : List Int) (t : Nat) (hsv : sv = tx ns) (hb : bys ns)
    (hk : ∀ cap, n ≤ cap → cap ≤ 9223372036854775807 → JL X ops l s F ((d, .slice (some ⟨t, 0, some 0⟩) n cap) :: L) ((t, { elem := el, cs := bvs ns, room := cap * 1, fz := true, flat := true }) :: K))
    (hn : n = ns.length) (hg : o.guard = none := by rfl) (ho : o.op = .convert sty ty x := by rfl) (hd : o.dst = some d := by rfl) (hN : d < X.N := by exact Nat.le_of_ble_eq_true rfl) (hθ : tabOk X.P Θ = true := by exact hT) (hss : Θ.lookup sty = some ts := by rfl) (hks : ts.k = .string := by rfl) (hi : Θ.lookup ty = some ti := by rfl) (hki : ti.k = .slice el := by rfl) (hj : Θ.lookup el = some tj := by rfl) (hkj : tj.k = .int .u8 := by rfl)
    (hx : evO L x = some (.string sv) := by rfl) (hs : ns.length ≤ 9223372036854775807 := by omega) (hL : ntL t L = true := by rfl) (hK : ntK t K = true := by rfl) (hD : X.D.contains t = false := by rfl) : JL X ops (o :: l) s F L K := by
  subst hsv
  refine JL.step hg (Go1.bytes hθ ho hd hN hss hks hi hki hj hkj hx (by rw [tx_size]; exact hs) hL hK hD fun cap h1 h2 => ?_)
  rw [tx_size] at h1 ⊢
  rw [bytesV_tx hb]
  have := hk cap (by omega) h2
  rw [Nat.mul_one, hn] at this
  exact this
end
section
variable {X : Cx} {F F0 : Mem} {L : Slots} {K K0 : Own} {s : List SI} {ops : Array Oper} {l : List Oper} {b : Nat} {D : List Nat} {p : List (Nat × Bool)} {listed : Array Bool}
/-- a literal slice -/
theorem jsl {i : Nat} {o : Oper} {Θ : Tab} {ty el : TypeId} {parts : Array (Nat × Operand)} {d n : Nat} {ti tj : Ty} {ps : List (Nat × List Value)} {cs : List Value} (hk : JD X l b F0 K0 D p (listed.setIfInBounds i true) s F ((d, .slice (some ⟨d, 0, some 0⟩) n n) :: L) ((d, { elem := el, cs := cs, room := n * tj.size, flat := false }) :: K))
    (hp0 : planOk l b (listed.setIfInBounds i true) p = true := by kernel_rfl) (ho' : l[i]? = some o := by rfl) (hg : o.guard = none := by rfl) (ho : o.op = .buildSlice ty n parts := by rfl) (hd : o.dst = some d := by rfl) (hN : d < X.N := by exact Nat.le_of_ble_eq_true rfl) (hθ : tabOk X.P Θ = true := by exact hT) (hi : Θ.lookup ty = some ti := by rfl) (hki : ti.k = .slice el := by rfl) (hj : Θ.lookup el = some tj := by rfl)
    (hp : partsL (evO L) parts.toList = some ps := by rfl) (h1 : ps.all (fun q => q.2.all (·.oneCell')) = true := by rfl) (hf : fillL (fun i => some (i * tj.size, tj.size)) (zer tj n) ps = some cs := by rfl) (hs : n * tj.size ≤ 16777216 := by exact Nat.le_of_ble_eq_true rfl) (hz0 : tj.zero.length = tj.size := by rfl) (hz1 : 0 < tj.size := by exact Nat.le_of_ble_eq_true rfl)
    (hL : ntL d L = true := by rfl) (hK : ntK d K = true := by rfl) (hD : D.contains d = false := by rfl)
    (hkp : Kept b F0 K0 (listed.setIfInBounds i true) F ((d, { elem := el, cs := cs, room := n * tj.size, flat := false }) :: K) := by first | exact Kept.all | exact Kept.k0 | exact Kept.kY | exact Kept.kYY | exact Kept.kY3) : JS X l b F0 K0 D p listed s i F L K :=
  JS.op ho' hg hp0 (Go1.slit hθ ho hd hN hi hki hj hp h1 hf hs hz0 hz1 hL hK hD ⟨hkp, hk⟩)
end
end Go.Proofs.Ytfcckfiipbdnkaa.Am
namespace Go.Proofs.Ytfcckfiipbdnkaa.Am
set_option linter.unusedSimpArgs false
set_option linter.unusedVariables false
set_option maxRecDepth 100000
set_option maxHeartbeats 4000000
open Go Go.RowKit
theorem law6_C (F : Mem) (m : Met) (ga ha : Option Addr) (gc hc : Nat) (hga : RIx F ga m.adv) (hha : RIx F ha m.bear) : C0 Try.prog 6 [m.v ga gc ha hc] F (.bool true) := by
  have hp := hga.pl
  have hq := hha.pl
  unfold Met.v
  refine C.go hT Try.func6 Try.ntmps6 ?_
  refine sq ?_
  refine rg ?_
  refine bx (hL := by simp [ntL, ntV, nt2, argL, nt1_i, nt1_b, hp.nt, hq.nt]) ?_
  refine JL.flat (m.pl hp hq gc hc) ?_
  refine st (h := O) ?_
  refine nl ?_
  iterate 2 (refine sq ?_)
  refine rg ?_
  refine st (h := sdLN) ?_
  refine cl (h := by exact fun ι hV hl => (mLarge_C _ m ga ha gc hc hp hq).ofR (arg1 (m.rV hp hq gc hc ι))) ?_
  refine nl ?_
  refine cB (fun c0 => ?_) (fun c0 => ?_)
  · refine sq ?_
    refine rg ?_
    refine cl (h := by exact fun ι hV hl => wakes_C _) ?_
    refine st (h := O) ?_
    refine nl ?_
    repeat refine J.dropF ?_
    first
      | exact rt ⟨rfl, rfl⟩
      | exact absurd rfl c2
      | exact absurd rfl g40
      | exact absurd c3 (by decide)
      | exact absurd g65 (by decide)
      | exact absurd rfl g30
  · have hlen : m.adv.length ≤ 5000 ∧ m.bear.length ≤ 5000 := by simp only [decide_eq_false_iff_not] at c0; omega
    refine sk ?_
    refine sq ?_
    refine J.weak (L0 := [(1, _)]) (K0 := [(1, _)]) (by exact ⟨rfl, trivial⟩) (by exact ⟨rfl, rfl, trivial⟩) ?_
    refine rg ?_
    refine st (h := sdLN) ?_
    refine clC (h := by exact fun ι hV hl => (mCopy_C _ m ga ha gc hc (hga.le hl) (hha.le hl) (by omega) (by omega)).ofR (arg1 (m.rV hp hq gc hc ι))) ?_
    intro u1 Y1 hQ1 hv1 hp1 hN1
    obtain ⟨b1, b2, n1, n2, rfl, hR1⟩ := hQ1
    obtain ⟨hA1, hB1⟩ := hR1 _ hN1.rows
    have hga1 := hga.le hN1.le
    have hha1 := hha.le hN1.le
    refine clC (h := by exact fun ι hV hl => (mBuild_C _ m _ _ _ _ (hA1.le hl) (hB1.le hl)).ofR (arg1 (m.rV hA1.pl hB1.pl _ _ ι))) ?_
    intro u2 Y2 hQ2 hv2 hp2 hN2
    have hga2 := hga1.le hN2.le
    have hha2 := hha1.le hN2.le
    rcases Decidable.em m.good with hgood | hgood
    · have hgd : decide m.good = true := decide_eq_true hgood
      rw [show bldD m = some (tbsM m) from if_pos hgood] at hQ2
      obtain ⟨b5, rfl, hTb⟩ := hQ2
      have hT2 := hTb _ hN2.rows
      iterate 5 (refine st (h := O) ?_)
      refine nl ?_
      iterate 2 (refine sq ?_)
      refine J.weak (L0 := [(1, _), (3, _), (4, _)]) (K0 := [(1, _)]) (by exact ⟨rfl, rfl, rfl, trivial⟩) (by exact ⟨rfl, rfl, trivial⟩) ?_
      refine rg ?_
      iterate 2 (refine st (h := O) ?_)
      refine st (h := sdLN) ?_
      refine clC (h := by exact fun ι hV hl => (mCopy_C _ m ga ha gc hc (hga2.le hl) (hha2.le hl) (by omega) (by omega)).ofR (arg1 (m.rV hp hq gc hc ι))) ?_
      intro u3 Y3 hQ3 hv3 hp3 hN3
      obtain ⟨b3, b4, n3, n4, rfl, hR3⟩ := hQ3
      obtain ⟨hA3, hB3⟩ := hR3 _ hN3.rows
      have hga3 := hga2.le hN3.le
      have hha3 := hha2.le hN3.le
      refine cl (h := by exact fun ι hV hl => (hgd ▸ mGood_C _ m _ _ _ _ (hA3.le hl) (hB3.le hl)).ofR (arg1 (m.rV hA3.pl hB3.pl _ _ ι))) ?_
      refine st (h := sbNe) ?_
      refine nl ?_
      refine cB (fun c1 => ?_) (fun c1 => ?_)
      · refine sq ?_
        refine J.weak (L0 := []) (K0 := [(1, _)]) (by exact trivial) (by exact ⟨rfl, rfl, trivial⟩) ?_
        refine rg ?_
        refine st (h := O) ?_
        refine nl ?_
        exact absurd c1 (by decide)
      · refine sk ?_
        iterate 2 (refine sq ?_)
        refine J.weak (L0 := [(1, _), (3, _), (4, _)]) (K0 := [(1, _)]) (by exact ⟨rfl, rfl, rfl, trivial⟩) (by exact ⟨rfl, rfl, trivial⟩) ?_
        refine rg ?_
        iterate 2 (refine st (h := O) ?_)
        refine nl ?_
        refine cN (fun c2 => ?_) (fun c2 => ?_)
        · refine sq ?_
          refine J.weak (L0 := [(3, _)]) (K0 := [(1, _)]) (by exact ⟨rfl, trivial⟩) (by exact ⟨rfl, rfl, trivial⟩) ?_
          refine rg ?_
          iterate 4 (refine st (h := O) ?_)
          refine gD (fun g30 => ?_) (fun g30 => ?_)
          · refine clg (h := by exact fun ι hV hl => wakes_C _) ?_
            iterate 2 (refine st (h := O) ?_)
            refine nl ?_
            repeat refine J.dropF ?_
            first
              | exact rt ⟨rfl, rfl⟩
              | exact absurd rfl c2
              | exact absurd rfl g40
              | exact absurd c3 (by decide)
              | exact absurd g65 (by decide)
              | exact absurd rfl g30
          · refine sp ?_
            iterate 2 (refine st (h := O) ?_)
            refine nl ?_
            repeat refine J.dropF ?_
            first
              | exact rt ⟨rfl, rfl⟩
              | exact absurd rfl c2
              | exact absurd rfl g40
              | exact absurd c3 (by decide)
              | exact absurd g65 (by decide)
              | exact absurd rfl g30
        · try (exfalso; omega)
          all_goals
            have hT3 := hT2.le hN3.le
            obtain ⟨w, hw, he⟩ := read_tbs hgood
            have hn := hgood.1.1.2.2.2.2.2.2.1
            refine sk ?_
            refine sq ?_
            refine J.weak (L0 := [(1, _), (3, _)]) (K0 := [(1, _)]) (by exact ⟨rfl, rfl, trivial⟩) (by exact ⟨rfl, rfl, trivial⟩) ?_
            refine rg ?_
            refine st (h := O) ?_
            refine clC (h := by exact fun ι hV hl => mRead_W _ _ (tbsM m) (hT3.le hl) (tbsM_size hn)) ?_
            intro u4 Y4 hQ4 hv4 hp4 hN4
            rw [hw] at hQ4
            obtain ⟨b6, c6, b7, c7, ⟨el, cs6, room, fz, fl⟩, Y5, rfl, rfl, rfl, hl6, hR4⟩ := hQ4
            have hN5 := hN4.tail (fun x hx => hp4 x (List.mem_cons_of_mem _ hx))
            have hB4 := hR4 _ hN5.rows
            have hT5 := hT3.le hN5.le
            have hga5 := hga3.le hN5.le
            have hha5 := hha3.le hN5.le
            refine JL.adoptV (d := 35) (t := 600001) (v' := .tuple #[w.v (some ⟨600001, 0, some 0⟩) c6 (some ⟨b7, 0, none⟩) c7, .int .i64 0]) rfl (fun ι e => by subst e; rfl) (ivs_pl _) rfl rfl rfl ?_
            iterate 3 (refine st (h := O) ?_)
            refine al ?_
            refine so ?_
            refine st (h := O) ?_
            refine nl ?_
            iterate 2 (refine sq ?_)
            refine J.weak (L0 := [(1, _), (3, _), (5, _), (6, _)]) (K0 := [(5, _), (600001, _), (1, _)]) (by exact ⟨rfl, rfl, rfl, rfl, trivial⟩) (by exact ⟨rfl, rfl, rfl, rfl, rfl, rfl, trivial⟩) ?_
            refine rg ?_
            iterate 3 (refine st (h := O) ?_)
            refine gN (fun g40 => ?_) (fun g40 => ?_)
            · refine sp ?_
              iterate 3 (refine sp ?_)
              refine st (h := O) ?_
              refine nl ?_
              refine cT ?_
              refine sq ?_
              refine rg ?_
              refine st (h := O) ?_
              refine nl ?_
              repeat refine J.dropF ?_
              first
                | exact rt ⟨rfl, rfl⟩
                | exact absurd rfl c2
                | exact absurd rfl g40
                | exact absurd c3 (by decide)
                | exact absurd g65 (by decide)
                | exact absurd rfl g30
            · refine sg (h := sdLN) ?_
              refine sg (h := sdLN) ?_
              refine clg (h := by exact fun ι hV hl => (decide_eq_true he ▸ rSame_C _ w m _ _ ga ha _ _ gc hc (hV.intsX rfl rfl hl6) (hB4.le hl) (hga5.le hl) (hha5.le hl)).ofR (arg2 rfl (m.rV hp hq gc hc ι))) ?_
              refine sg (h := O) ?_
              refine st (h := O) ?_
              refine nl ?_
              refine cB (fun c3 => ?_) (fun c3 => ?_)
              · refine sq ?_
                refine rg ?_
                refine st (h := O) ?_
                refine nl ?_
                repeat refine J.dropF ?_
                first
                  | exact rt ⟨rfl, rfl⟩
                  | exact absurd rfl c2
                  | exact absurd rfl g40
                  | exact absurd c3 (by decide)
                  | exact absurd g65 (by decide)
                  | exact absurd rfl g30
              · refine sk ?_
                iterate 2 (refine sq ?_)
                refine J.weak (L0 := [(1, _), (3, _), (5, _)]) (K0 := [(5, _), (600001, _), (1, _)]) (by exact ⟨rfl, rfl, rfl, trivial⟩) (by exact ⟨rfl, rfl, rfl, rfl, rfl, rfl, trivial⟩) ?_
                refine rg ?_
                refine st (h := O) ?_
                refine nl ?_
                refine bl ?_
                refine J.loop2 (α := Nat) (β := List Value) (fun k cs => k ≤ w.adv.length ∧ cs.length = w.adv.length) (fun k cs => [(7, .int .i64 k)]) [(1, _), (3, _), (5, _)] (fun k cs => [(600001, { elem := el, cs := cs, room := room, fz := fz, flat := true })]) [(5, _), (1, _)] (fun k cs => w.adv.length - k) (0) (_) (by exact ⟨rfl, trivial⟩) (by exact ⟨rfl, rfl, rfl, trivial⟩) (by exact ⟨rfl, rfl, rfl, rfl, rfl, rfl, trivial⟩) ?_ ?_
                · exact ⟨Nat.zero_le _, ivs_length _⟩
                · intro k cs L1 K1 e1 e2 hI
                  dsimp only [apV, apR, List.cons_append, List.nil_append] at e1 e2
                  subst e1 e2
                  obtain ⟨hk, hcl⟩ := hI
                  iterate 2 (refine sq ?_)
                  refine rg ?_
                  refine st (h := O) ?_
                  refine st (h := sdFA) ?_
                  refine st (h := sdL) ?_
                  iterate 2 (refine st (h := O) ?_)
                  refine nl ?_
                  refine cD (fun c4 => ?_) (fun c4 => ?_)
                  · have hkl : k < w.adv.length := by omega
                    refine sk ?_
                    refine sq ?_
                    refine bl ?_
                    refine rg ?_
                    refine st (h := sdFA) ?_
                    refine st (h := sdL) ?_
                    refine st (h := O) ?_
                    refine st (h := (sdX (z := 1))) ?_
                    refine so (hle := by show 0 + (k : Int).toNat * 1 + 1 ≤ cs.length; omega) ?_
                    refine nl ?_
                    refine bk ?_
                    refine rg ?_
                    refine st (h := O) ?_
                    refine st (h := sdA) ?_
                    refine st (h := O) ?_
                    refine nl ?_
                    refine bk2 (k + 1) (_) (by exact ⟨rfl, trivial⟩) (by exact ⟨rfl, rfl, rfl, trivial⟩) (by exact ⟨rfl, rfl, rfl, rfl, rfl, rfl, trivial⟩) ?_ ?_
                    · omega
                    · exact ⟨by omega, by rw [← hcl]; exact putL_length _ _ _⟩
                  · refine ex ?_
                    refine sq ?_
                    refine J.weak (L0 := [(1, _), (3, _)]) (K0 := [(600001, _), (5, _), (1, _)]) (by exact ⟨rfl, rfl, trivial⟩) (by exact ⟨rfl, rfl, rfl, rfl, rfl, rfl, trivial⟩) ?_
                    refine rg ?_
                    refine st (h := O) ?_
                    refine clC (h := by exact fun ι hV hl => mRead_C _ _ (tbsM m) (hT5.le hl) (tbsM_size hn)) ?_
                    intro u6 Y6 hQ6 hv6 hp6 hN6
                    rw [hw] at hQ6
                    obtain ⟨b8, c8, b9, c9, rfl, hR6⟩ := hQ6
                    obtain ⟨hA6, hB6⟩ := hR6 _ hN6.rows
                    have hga6 := hga5.le hN6.le
                    have hha6 := hha5.le hN6.le
                    iterate 3 (refine st (h := O) ?_)
                    refine al ?_
                    refine so ?_
                    refine st (h := O) ?_
                    refine nl ?_
                    refine sq ?_
                    refine J.weak (L0 := [(1, _), (8, _)]) (K0 := [(8, _), (600001, _), (5, _), (1, _)]) (by exact ⟨rfl, rfl, trivial⟩) (by exact ⟨rfl, rfl, rfl, rfl, rfl, rfl, rfl, rfl, trivial⟩) ?_
                    refine rg ?_
                    iterate 2 (refine st (h := sdLN) ?_)
                    refine cl (h := by exact fun ι hV hl => (decide_eq_true he ▸ rSame_C _ w m _ _ ga ha _ _ gc hc (hA6.le hl) (hB6.le hl) (hga6.le hl) (hha6.le hl)).ofR (arg2 (w.rV hA6.pl hB6.pl _ _ ι) (m.rV hp hq gc hc ι))) ?_
                    refine st (h := O) ?_
                    refine gB (fun g65 => ?_) (fun g65 => ?_)
                    · refine clg (h := by exact fun ι hV hl => wakes_C _) ?_
                      iterate 2 (refine st (h := O) ?_)
                      refine nl ?_
                      repeat refine J.dropF ?_
                      first
                        | exact rt ⟨rfl, rfl⟩
                        | exact absurd rfl c2
                        | exact absurd rfl g40
                        | exact absurd c3 (by decide)
                        | exact absurd g65 (by decide)
                        | exact absurd rfl g30
                    · refine sp ?_
                      iterate 2 (refine st (h := O) ?_)
                      refine nl ?_
                      repeat refine J.dropF ?_
                      first
                        | exact rt ⟨rfl, rfl⟩
                        | exact absurd rfl c2
                        | exact absurd rfl g40
                        | exact absurd c3 (by decide)
                        | exact absurd g65 (by decide)
                        | exact absurd rfl g30
    · have hgd : decide m.good = false := decide_eq_false hgood
      rw [show bldD m = none from if_neg hgood] at hQ2
      obtain rfl : u2 = .tuple #[.slice none 0 0, .int .i64 90] := hQ2
      iterate 5 (refine st (h := O) ?_)
      refine nl ?_
      iterate 2 (refine sq ?_)
      refine J.weak (L0 := [(1, _), (3, _), (4, _)]) (K0 := [(1, _)]) (by exact ⟨rfl, rfl, rfl, trivial⟩) (by exact ⟨rfl, rfl, trivial⟩) ?_
      refine rg ?_
      iterate 2 (refine st (h := O) ?_)
      refine st (h := sdLN) ?_
      refine clC (h := by exact fun ι hV hl => (mCopy_C _ m ga ha gc hc (hga2.le hl) (hha2.le hl) (by omega) (by omega)).ofR (arg1 (m.rV hp hq gc hc ι))) ?_
      intro u3 Y3 hQ3 hv3 hp3 hN3
      obtain ⟨b3, b4, n3, n4, rfl, hR3⟩ := hQ3
      obtain ⟨hA3, hB3⟩ := hR3 _ hN3.rows
      have hga3 := hga2.le hN3.le
      have hha3 := hha2.le hN3.le
      refine cl (h := by exact fun ι hV hl => (hgd ▸ mGood_C _ m _ _ _ _ (hA3.le hl) (hB3.le hl)).ofR (arg1 (m.rV hA3.pl hB3.pl _ _ ι))) ?_
      refine st (h := sbNe) ?_
      refine nl ?_
      refine cB (fun c1 => ?_) (fun c1 => ?_)
      · refine sq ?_
        refine J.weak (L0 := []) (K0 := [(1, _)]) (by exact trivial) (by exact ⟨rfl, rfl, trivial⟩) ?_
        refine rg ?_
        refine st (h := O) ?_
        refine nl ?_
        exact absurd c1 (by decide)
      · refine sk ?_
        iterate 2 (refine sq ?_)
        refine J.weak (L0 := [(1, _), (3, _), (4, _)]) (K0 := [(1, _)]) (by exact ⟨rfl, rfl, rfl, trivial⟩) (by exact ⟨rfl, rfl, trivial⟩) ?_
        refine rg ?_
        iterate 2 (refine st (h := O) ?_)
        refine nl ?_
        refine cN (fun c2 => ?_) (fun c2 => ?_)
        · refine sq ?_
          refine J.weak (L0 := [(3, _)]) (K0 := [(1, _)]) (by exact ⟨rfl, trivial⟩) (by exact ⟨rfl, rfl, trivial⟩) ?_
          refine rg ?_
          iterate 4 (refine st (h := O) ?_)
          refine gD (fun g30 => ?_) (fun g30 => ?_)
          · refine clg (h := by exact fun ι hV hl => wakes_C _) ?_
            iterate 2 (refine st (h := O) ?_)
            refine nl ?_
            repeat refine J.dropF ?_
            first
              | exact rt ⟨rfl, rfl⟩
              | exact absurd rfl c2
              | exact absurd rfl g40
              | exact absurd c3 (by decide)
              | exact absurd g65 (by decide)
              | exact absurd rfl g30
          · refine sp ?_
            iterate 2 (refine st (h := O) ?_)
            refine nl ?_
            repeat refine J.dropF ?_
            first
              | exact rt ⟨rfl, rfl⟩
              | exact absurd rfl c2
              | exact absurd rfl g40
              | exact absurd c3 (by decide)
              | exact absurd g65 (by decide)
              | exact absurd rfl g30
        · try (exfalso; omega)
          all_goals
            have hT3 := hT2.le hN3.le
            obtain ⟨w, hw, he⟩ := read_tbs hgood
            have hn := hgood.1.1.2.2.2.2.2.2.1
            refine sk ?_
            refine sq ?_
            refine J.weak (L0 := [(1, _), (3, _)]) (K0 := [(1, _)]) (by exact ⟨rfl, rfl, trivial⟩) (by exact ⟨rfl, rfl, trivial⟩) ?_
            refine rg ?_
            refine st (h := O) ?_
            refine clC (h := by exact fun ι hV hl => mRead_W _ _ (tbsM m) (hT3.le hl) (tbsM_size hn)) ?_
            intro u4 Y4 hQ4 hv4 hp4 hN4
            rw [hw] at hQ4
            obtain ⟨b6, c6, b7, c7, ⟨el, cs6, room, fz, fl⟩, Y5, rfl, rfl, rfl, hl6, hR4⟩ := hQ4
            have hN5 := hN4.tail (fun x hx => hp4 x (List.mem_cons_of_mem _ hx))
            have hB4 := hR4 _ hN5.rows
            have hT5 := hT3.le hN5.le
            have hga5 := hga3.le hN5.le
            have hha5 := hha3.le hN5.le
            refine JL.adoptV (d := 35) (t := 600001) (v' := .tuple #[w.v (some ⟨600001, 0, some 0⟩) c6 (some ⟨b7, 0, none⟩) c7, .int .i64 0]) rfl (fun ι e => by subst e; rfl) (ivs_pl _) rfl rfl rfl ?_
            iterate 3 (refine st (h := O) ?_)
            refine al ?_
            refine so ?_
            refine st (h := O) ?_
            refine nl ?_
            iterate 2 (refine sq ?_)
            refine J.weak (L0 := [(1, _), (3, _), (5, _), (6, _)]) (K0 := [(5, _), (600001, _), (1, _)]) (by exact ⟨rfl, rfl, rfl, rfl, trivial⟩) (by exact ⟨rfl, rfl, rfl, rfl, rfl, rfl, trivial⟩) ?_
            refine rg ?_
            iterate 3 (refine st (h := O) ?_)
            refine gN (fun g40 => ?_) (fun g40 => ?_)
            · refine sp ?_
              iterate 3 (refine sp ?_)
              refine st (h := O) ?_
              refine nl ?_
              refine cT ?_
              refine sq ?_
              refine rg ?_
              refine st (h := O) ?_
              refine nl ?_
              repeat refine J.dropF ?_
              first
                | exact rt ⟨rfl, rfl⟩
                | exact absurd rfl c2
                | exact absurd rfl g40
                | exact absurd c3 (by decide)
                | exact absurd g65 (by decide)
                | exact absurd rfl g30
            · refine sg (h := sdLN) ?_
              refine sg (h := sdLN) ?_
              refine clg (h := by exact fun ι hV hl => (decide_eq_true he ▸ rSame_C _ w m _ _ ga ha _ _ gc hc (hV.intsX rfl rfl hl6) (hB4.le hl) (hga5.le hl) (hha5.le hl)).ofR (arg2 rfl (m.rV hp hq gc hc ι))) ?_
              refine sg (h := O) ?_
              refine st (h := O) ?_
              refine nl ?_
              refine cB (fun c3 => ?_) (fun c3 => ?_)
              · refine sq ?_
                refine rg ?_
                refine st (h := O) ?_
                refine nl ?_
                repeat refine J.dropF ?_
                first
                  | exact rt ⟨rfl, rfl⟩
                  | exact absurd rfl c2
                  | exact absurd rfl g40
                  | exact absurd c3 (by decide)
                  | exact absurd g65 (by decide)
                  | exact absurd rfl g30
              · refine sk ?_
                iterate 2 (refine sq ?_)
                refine J.weak (L0 := [(1, _), (3, _), (5, _)]) (K0 := [(5, _), (600001, _), (1, _)]) (by exact ⟨rfl, rfl, rfl, trivial⟩) (by exact ⟨rfl, rfl, rfl, rfl, rfl, rfl, trivial⟩) ?_
                refine rg ?_
                refine st (h := O) ?_
                refine nl ?_
                refine bl ?_
                refine J.loop2 (α := Nat) (β := List Value) (fun k cs => k ≤ w.adv.length ∧ cs.length = w.adv.length) (fun k cs => [(7, .int .i64 k)]) [(1, _), (3, _), (5, _)] (fun k cs => [(600001, { elem := el, cs := cs, room := room, fz := fz, flat := true })]) [(5, _), (1, _)] (fun k cs => w.adv.length - k) (0) (_) (by exact ⟨rfl, trivial⟩) (by exact ⟨rfl, rfl, rfl, trivial⟩) (by exact ⟨rfl, rfl, rfl, rfl, rfl, rfl, trivial⟩) ?_ ?_
                · exact ⟨Nat.zero_le _, ivs_length _⟩
                · intro k cs L1 K1 e1 e2 hI
                  dsimp only [apV, apR, List.cons_append, List.nil_append] at e1 e2
                  subst e1 e2
                  obtain ⟨hk, hcl⟩ := hI
                  iterate 2 (refine sq ?_)
                  refine rg ?_
                  refine st (h := O) ?_
                  refine st (h := sdFA) ?_
                  refine st (h := sdL) ?_
                  iterate 2 (refine st (h := O) ?_)
                  refine nl ?_
                  refine cD (fun c4 => ?_) (fun c4 => ?_)
                  · have hkl : k < w.adv.length := by omega
                    refine sk ?_
                    refine sq ?_
                    refine bl ?_
                    refine rg ?_
                    refine st (h := sdFA) ?_
                    refine st (h := sdL) ?_
                    refine st (h := O) ?_
                    refine st (h := (sdX (z := 1))) ?_
                    refine so (hle := by show 0 + (k : Int).toNat * 1 + 1 ≤ cs.length; omega) ?_
                    refine nl ?_
                    refine bk ?_
                    refine rg ?_
                    refine st (h := O) ?_
                    refine st (h := sdA) ?_
                    refine st (h := O) ?_
                    refine nl ?_
                    refine bk2 (k + 1) (_) (by exact ⟨rfl, trivial⟩) (by exact ⟨rfl, rfl, rfl, trivial⟩) (by exact ⟨rfl, rfl, rfl, rfl, rfl, rfl, trivial⟩) ?_ ?_
                    · omega
                    · exact ⟨by omega, by rw [← hcl]; exact putL_length _ _ _⟩
                  · refine ex ?_
                    refine sq ?_
                    refine J.weak (L0 := [(1, _), (3, _)]) (K0 := [(600001, _), (5, _), (1, _)]) (by exact ⟨rfl, rfl, trivial⟩) (by exact ⟨rfl, rfl, rfl, rfl, rfl, rfl, trivial⟩) ?_
                    refine rg ?_
                    refine st (h := O) ?_
                    refine clC (h := by exact fun ι hV hl => mRead_C _ _ (tbsM m) (hT5.le hl) (tbsM_size hn)) ?_
                    intro u6 Y6 hQ6 hv6 hp6 hN6
                    rw [hw] at hQ6
                    obtain ⟨b8, c8, b9, c9, rfl, hR6⟩ := hQ6
                    obtain ⟨hA6, hB6⟩ := hR6 _ hN6.rows
                    have hga6 := hga5.le hN6.le
                    have hha6 := hha5.le hN6.le
                    iterate 3 (refine st (h := O) ?_)
                    refine al ?_
                    refine so ?_
                    refine st (h := O) ?_
                    refine nl ?_
                    refine sq ?_
                    refine J.weak (L0 := [(1, _), (8, _)]) (K0 := [(8, _), (600001, _), (5, _), (1, _)]) (by exact ⟨rfl, rfl, trivial⟩) (by exact ⟨rfl, rfl, rfl, rfl, rfl, rfl, rfl, rfl, trivial⟩) ?_
                    refine rg ?_
                    iterate 2 (refine st (h := sdLN) ?_)
                    refine cl (h := by exact fun ι hV hl => (decide_eq_true he ▸ rSame_C _ w m _ _ ga ha _ _ gc hc (hA6.le hl) (hB6.le hl) (hga6.le hl) (hha6.le hl)).ofR (arg2 (w.rV hA6.pl hB6.pl _ _ ι) (m.rV hp hq gc hc ι))) ?_
                    refine st (h := O) ?_
                    refine gB (fun g65 => ?_) (fun g65 => ?_)
                    · refine clg (h := by exact fun ι hV hl => wakes_C _) ?_
                      iterate 2 (refine st (h := O) ?_)
                      refine nl ?_
                      repeat refine J.dropF ?_
                      first
                        | exact rt ⟨rfl, rfl⟩
                        | exact absurd rfl c2
                        | exact absurd rfl g40
                        | exact absurd c3 (by decide)
                        | exact absurd g65 (by decide)
                        | exact absurd rfl g30
                    · refine sp ?_
                      iterate 2 (refine st (h := O) ?_)
                      refine nl ?_
                      repeat refine J.dropF ?_
                      first
                        | exact rt ⟨rfl, rfl⟩
                        | exact absurd rfl c2
                        | exact absurd rfl g40
                        | exact absurd c3 (by decide)
                        | exact absurd g65 (by decide)
                        | exact absurd rfl g30
theorem law6_K {F : Mem} {cs : List Value} {p} (h : kMet.R F cs p) : C0 Try.prog 6 [.agg ⟨cs⟩] F (.bool true) := by
  obtain ⟨m, ga, ha, gc, hc, e, h1, h2, _⟩ := Met.ofK h
  rw [e]
  exact law6_C F m ga ha gc hc h1 h2

end Go.Proofs.Ytfcckfiipbdnkaa.Am
namespace Go.Proofs.Ytfcckfiipbdnkaa.Am
set_option linter.unusedSimpArgs false
set_option linter.unusedVariables false
set_option maxRecDepth 100000
set_option maxHeartbeats 4000000
open Go Go.RowKit
def hhN (m : Met) (h : Int) : List Int := [0, 1, 0, 0] ++ tb2 m.asc ++ tb2 m.desc ++ tb2 m.gap ++ tb2 (mx m.adv (m.adv.length - 1)) ++ zz 22 ++ tb2 h
def brN (m : Met) (h : Nat) : Nat → List Int
  | 0 => []
  | j + 1 => brN m h j ++ tb2 (ints m.bear (h + j))
def shortN (m : Met) (h j : Nat) : List Int := hmtxN m h ++ brN m h j
def tbsS (m : Met) (h : Nat) : List Tb := [(sHead, tx (headN m)), (sHhea, tx (hhN m h)), (sHmtx, tx (shortN m h (m.adv.length - h))), (sMaxp, tx (maxpN m))]
theorem brN_length (m : Met) (h : Nat) : ∀ j, (brN m h j).length = 2 * j
  | 0 => rfl
  | j + 1 => by rw [brN, List.length_append, brN_length m h j]; show _ + 2 = _; omega
theorem shortN_length (m : Met) (h j : Nat) : (shortN m h j).length = 4 * h + 2 * j := by rw [shortN, List.length_append, hmtxN_length, brN_length]
theorem brN_bys (m : Met) (h : Nat) : ∀ k, bys (brN m h k)
  | 0 => fun x hx => by cases hx
  | k + 1 => (brN_bys m h k).append (tb2_bys _)
theorem shortN_bys (m : Met) (h j : Nat) : bys (shortN m h j) := (hmtxN_bys m h).append (brN_bys m h j)
theorem hhN_bys (m : Met) (h : Int) : bys (hhN m h) := by
  unfold hhN
  repeat' apply bys.append
  all_goals first | exact tb2_bys _ | exact zz_bys _ | exact bys_of rfl
theorem hhN_cut (m : Met) (h : Int) : tx ((hheaN m).take 34) ++ tx [hiB h, loB h] = tx (hhN m h) := by
  rw [← tx_append]
  congr 1
theorem brN_cut (m : Met) (h k : Nat) : ∀ n, k < n → ∃ r, brN m h n = brN m h k ++ (tb2 (ints m.bear (h + k)) ++ r)
  | 0, hk => absurd hk (Nat.not_lt_zero _)
  | n + 1, hk => by
    rcases Nat.lt_or_ge k n with h' | h'
    · obtain ⟨r, hr⟩ := brN_cut m h k n h'
      exact ⟨r ++ tb2 (ints m.bear (h + n)), by rw [brN, hr]; simp only [List.append_assoc]⟩
    · obtain rfl : k = n := by omega
      exact ⟨[], by rw [brN, List.append_nil]⟩
theorem hmtxN_take (m : Met) {h : Nat} : ∀ n, h ≤ n → (hmtxN m n).take (4 * h) = hmtxN m h
  | 0, hh => by
    obtain rfl : h = 0 := by omega
    rfl
  | n + 1, hh => by
    rcases Nat.lt_or_ge n h with h' | h'
    · obtain rfl : h = n + 1 := by omega
      rw [← hmtxN_length m (n + 1), List.take_length]
    · rw [hmtxN, List.take_append_of_le_length (by rw [hmtxN_length]; omega), hmtxN_take m n h']
theorem hmtx_part (m : Met) {k n : Nat} (h : k < n) : (tx (hmtxN m n)).extract (4 * k + 2) (4 * k + 4) = tx (tb2 (ints m.bear k)) := by
  rw [ext_tx, show 4 * k + 4 = 4 * (k + 1) from by omega, hmtxN_take m n h, hmtxN, ← List.append_assoc, List.drop_left' (by rw [List.length_append, hmtxN_length]; rfl)]
theorem short_adv {m : Met} {k h j : Nat} (hk : k < h) (h0 : 0 ≤ ints m.adv k) (h1 : ints m.adv k ≤ 65535) : two (tx (shortN m h j)) (4 * k) = ints m.adv k := by
  obtain ⟨r, hr⟩ := hmtxN_cut m k h hk
  have hb := shortN_bys m h j
  rw [shortN, hr, List.append_assoc, List.append_assoc] at hb ⊢
  rw [← hmtxN_length m k, two_mid hb, hl_two h0 (by omega)]
theorem short_bear1 {m : Met} {k h j : Nat} (hk : k < h) (hs : sm (ints m.bear k)) : sg2 (two (tx (shortN m h j)) (4 * k + 2)) = ints m.bear k := by
  obtain ⟨r, hr⟩ := hmtxN_cut m k h hk
  have hb := shortN_bys m h j
  rw [shortN, hr, ← List.append_assoc, List.append_assoc, List.append_assoc (tb2 (ints m.bear k))] at hb ⊢
  have e : 4 * k + 2 = (hmtxN m k ++ tb2 (ints m.adv k)).length := by rw [List.length_append, hmtxN_length]; rfl
  rw [e, two_mid hb, hl_sg hs.1 hs.2]
theorem short_bear2 {m : Met} {k h j : Nat} (hk : k < j) (hs : sm (ints m.bear (h + k))) : sg2 (two (tx (shortN m h j)) (4 * h + 2 * k)) = ints m.bear (h + k) := by
  obtain ⟨r, hr⟩ := brN_cut m h k j hk
  have hb := shortN_bys m h j
  rw [shortN, hr, ← List.append_assoc] at hb ⊢
  have e : 4 * h + 2 * k = (hmtxN m h ++ brN m h k).length := by rw [List.length_append, hmtxN_length, brN_length]
  rw [e, two_mid hb, hl_sg hs.1 hs.2]
theorem hhN_length (m : Met) (h : Int) : (hhN m h).length = 36 := by kernel_rfl
theorem hs34 (m : Met) (h : Int) : two (tx (hhN m h)) 34 = hiB h * 256 + loB h := at_two (hhN_bys m h) (by rw [hhN_length]) (by kernel_rfl) (by kernel_rfl)
theorem hs32 (m : Met) (h : Int) : two (tx (hhN m h)) 32 = hiB 0 * 256 + loB 0 := at_two (hhN_bys m h) (by rw [hhN_length]) (by kernel_rfl) (by kernel_rfl)
theorem hs_one (m : Met) (h : Int) : (tx (hhN m h)).extract 0 4 = vOne := by rw [ext_tx]; kernel_rfl
theorem fnd_tbsS (m : Met) (h : Nat) : fnd (tbsS m h) sMaxp = some (tx (maxpN m)) ∧ fnd (tbsS m h) sHead = some (tx (headN m)) ∧ fnd (tbsS m h) sHhea = some (tx (hhN m h)) ∧ fnd (tbsS m h) sHmtx = some (tx (shortN m h (m.adv.length - h))) :=
  ⟨fnd_at (l := tbsS m h) (k := 3) (by show 3 < 4; omega) (fun j hj => by rcases (show j = 0 ∨ j = 1 ∨ j = 2 from by omega) with rfl | rfl | rfl <;> exact of_decide_eq_false rfl) rfl,
   fnd_at (l := tbsS m h) (k := 0) (by show 0 < 4; omega) (fun j hj => by omega) rfl,
   fnd_at (l := tbsS m h) (k := 1) (by show 1 < 4; omega) (fun j hj => by rcases (show j = 0 from by omega) with rfl; exact of_decide_eq_false rfl) rfl,
   fnd_at (l := tbsS m h) (k := 2) (by show 2 < 4; omega) (fun j hj => by rcases (show j = 0 ∨ j = 1 from by omega) with rfl | rfl <;> exact of_decide_eq_false rfl) rfl⟩
theorem read_tbsS {m : Met} (hg : m.good) {h : Nat} (h1 : 1 ≤ h) (h2 : h ≤ m.adv.length) : ∃ w, readD (tbsS m h) = some w ∧ w.adv = (List.range m.adv.length).map (fun i => ints m.adv (min i (h - 1))) ∧ w.bear = m.bear := by
  have hp := hg.1.1
  have hgl := hg.2
  unfold Met.pre at hp
  obtain ⟨p1, p2, _, _, _, p9, p10, hbl⟩ := hp
  obtain ⟨f1, f2, f3, f4⟩ := fnd_tbsS m h
  have e4 := maxp_two m (by omega)
  have e34 : two (tx (hhN m h)) 34 = h := by rw [hs34]; exact hl_two (by omega) (by omega)
  have hok : okAll (tx (maxpN m)) (tx (headN m)) (tx (hhN m h)) (tx (shortN m h (m.adv.length - h))) := by
    refine ⟨?_, ?_, ?_, maxp_ok hg, head_ok hg, ⟨hs_one m h, by rw [hs32, hl0], by omega, by omega⟩, ?_⟩
    · rw [tx_size, maxpN_length]; omega
    · rw [tx_size, headN_length]; omega
    · rw [tx_size, hhN_length]; omega
    · unfold okHm
      rw [tx_size, shortN_length, e34, e4]; omega
  refine ⟨_, by rw [readD, f1, f2, f3, f4]; exact if_pos hok, ?_, ?_⟩
  · dsimp only [metOf]
    rw [e4, e34, Int.toNat_natCast, Int.toNat_natCast]
    refine List.map_congr_left fun k hk => ?_
    have hk' := List.mem_range.1 hk
    have hm : min k (h - 1) < h := by omega
    have := hgl (min k (h - 1)) (by omega)
    rw [advAt, short_adv hm this.1 this.2.1]
  · dsimp only [metOf]
    rw [e4, e34, Int.toNat_natCast, Int.toNat_natCast]
    conv => rhs; rw [← ints_list m.bear, hbl]
    refine List.map_congr_left fun k hk => ?_
    have hk' := List.mem_range.1 hk
    rw [bearAt]
    split
    · rename_i hkh
      exact short_bear1 hkh (hgl k hk').2.2
    · obtain ⟨i, rfl⟩ : ∃ i, k = h + i := ⟨k - h, by omega⟩
      rw [show h + i - h = i from by omega]
      exact short_bear2 (by omega) (hgl _ hk').2.2
theorem tbsS_size {m : Met} {h : Nat} (hn : m.adv.length ≤ 4096) (hh : h ≤ m.adv.length) : ∀ x ∈ tbsS m h, x.2.size ≤ 140737488355328 := by
  intro x hx
  simp only [tbsS, List.mem_cons, List.not_mem_nil, or_false] at hx
  rcases hx with rfl | rfl | rfl | rfl <;> dsimp only
  · rw [tx_size, headN_length]; omega
  · rw [tx_size, hhN_length]; omega
  · rw [tx_size, shortN_length]; omega
  · rw [tx_size, maxpN_length]; omega

end Go.Proofs.Ytfcckfiipbdnkaa.Am
