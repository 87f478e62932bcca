/- CmapBuilds: the table of any list, in either format, is the one that the document's answer builds, or is refused with the same error. No condition beyond the statement's own. -/
import Derived.Test.YtldcgkkbmnahiaaRq
import Derived.Test.YtldcgkkbmnahiaaPxx14
import Derived.Test.YtldcgkkbmnahiaaPxx19
namespace Go.Proofs.Ytldcgkkbmnahiaa.Pure
set_option linter.unusedSimpArgs false
set_option linter.unusedVariables false
open Go.RowKit Go.Proofs.Ytldcgkkbmnahiaa.Px Go.Proofs.YtldcgkkbmnahiaaW.PrintWords Go.Proofs.YtldcgkkbmnahiaaW.PrintLast Go.Proofs.YtldcgkkbmnahiaaW.PrintMore

theorem refGood_l0 (l : List S47) (n : Int) (hl : l.length ≤ 100000) : ∀ (r : Nat) (i : Int), 0 ≤ i → i + r = l.length → Ev (fun k => colophonref11_Good.l0 k l n i) (goodL l n r i) := by
  intro r
  induction r with
  | zero =>
    intro i h0 h1
    refine Ev.step (f := fun _ => some true) (fun k => ?_) (Ev.now _)
    rw [colophonref11_Good.l0, if_neg (by omega)]
  | succ r ih =>
    intro i h0 h1
    have hn := ih (i + 1) (by omega) (by omega)
    have ei : wrap64 (i + 1) = i + 1 := wrap64_small (by omega) (by omega)
    have ej : wrap64 (i - 1) = i - 1 := wrap64_small (by omega) (by omega)
    simp only [goodL]
    generalize hX : rd_T47 l i = X at *
    refine Ev.step (f := fun k => colophonref11_Good.j1 k l n i (gBad1 X || gBad2 X n) X.f0 X.f1 X.f2) (fun k => ?_) ?_
    · rw [colophonref11_Good.l0, if_pos (by omega), if_pos h0, hX]
      unfold gBad1 gBad2
      by_cases a2 : X.f1 < X.f0
      · rw [if_pos (show X.f0 > X.f1 from a2), decide_eq_true a2]; simp
      · rw [if_neg (show ¬ X.f0 > X.f1 from a2), decide_eq_false a2]
        by_cases a1 : X.f0 < 0
        · rw [if_pos a1, decide_eq_true a1]; simp
        · rw [if_neg a1, decide_eq_false a1]
          by_cases a3 : 1114111 < X.f1
          · rw [if_pos (show X.f1 > 1114111 from a3), decide_eq_true a3]; simp
          · rw [if_neg (show ¬ X.f1 > 1114111 from a3), decide_eq_false a3]
            by_cases a5 : X.f2 < 1
            · rw [decide_eq_true a5]
              by_cases a4 : X.f0 ≤ 57343
              · rw [if_pos a4]
                by_cases a6 : X.f1 ≥ 55296
                · rw [if_pos a6]; simp
                · rw [if_neg a6, if_pos a5]; simp
              · rw [if_neg a4, if_pos a5]; simp
            · rw [decide_eq_false a5]
              by_cases a7 : n ≤ X.f2
              · rw [decide_eq_true a7]
                by_cases a4 : X.f0 ≤ 57343
                · rw [if_pos a4]
                  by_cases a6 : X.f1 ≥ 55296
                  · rw [if_pos a6]; simp
                  · rw [if_neg a6, if_neg a5, if_pos (show X.f2 ≥ n from a7)]; simp
                · rw [if_neg a4, if_neg a5, if_pos (show X.f2 ≥ n from a7)]; simp
              · rw [decide_eq_false a7]
                by_cases a4 : X.f0 ≤ 57343
                · rw [if_pos a4, decide_eq_true a4]
                  by_cases a6 : X.f1 ≥ 55296
                  · rw [if_pos a6, decide_eq_true (show 55296 ≤ X.f1 from a6)]; simp
                  · rw [if_neg a6, if_neg a5, if_neg (show ¬ X.f2 ≥ n from a7), decide_eq_false (show ¬ 55296 ≤ X.f1 from a6)]; simp
                · rw [if_neg a4, if_neg a5, if_neg (show ¬ X.f2 ≥ n from a7), decide_eq_false a4]; simp
    · cases hb : gBad1 X with
      | true =>
        rw [if_pos rfl]
        exact Ev.step (f := fun _ => some false) (fun k => by simp only [colophonref11_Good.j1, Bool.true_or, if_true]) (Ev.now _)
      | false =>
        rw [if_neg (by decide)]
        cases hb2 : gBad2 X n with
        | true =>
          rw [if_pos rfl]
          exact Ev.step (f := fun _ => some false) (fun k => by simp only [colophonref11_Good.j1, Bool.or_true, if_true]) (Ev.now _)
        | false =>
          rw [if_neg (by decide)]
          by_cases hi : 0 < i
          · generalize hY : rd_T47 l (i - 1) = Y at *
            cases hp : pBad Y X with
            | true =>
              rw [if_pos ⟨hi, rfl⟩]
              refine Ev.step (f := fun _ => some false) (fun k => ?_) (Ev.now _)
              simp only [colophonref11_Good.j1]
              rw [if_neg (by decide), if_pos (show i > 0 from hi), ej, if_pos (by omega), if_pos (by omega), hY]
              unfold pBad at hp
              by_cases a1 : X.f0 ≤ Y.f1
              · rw [if_pos a1]
              · rw [if_neg a1]
                rw [decide_eq_false a1, Bool.false_or, Bool.and_eq_true, beq_iff_eq, beq_iff_eq] at hp
                rw [if_pos hp.1, if_pos hp.2]
            | false =>
              rw [if_neg (fun hh => by simpa using hh.2)]
              refine Ev.step (fun k => ?_) hn
              simp only [colophonref11_Good.j1]
              rw [if_neg (by decide), if_pos (show i > 0 from hi), ej, if_pos (by omega), if_pos (by omega), hY, ei]
              unfold pBad at hp
              rw [Bool.or_eq_false_iff] at hp
              rw [if_neg (of_decide_eq_false hp.1)]
              by_cases a2 : X.f0 = wrap64 (Y.f1 + 1)
              · rw [if_pos a2]
                have hp2 := hp.2
                rw [beq_iff_eq.2 a2, Bool.true_and, beq_eq_false_iff_ne] at hp2
                rw [if_neg hp2]
              · rw [if_neg a2]
          · rw [if_neg (fun hh => hi hh.1)]
            refine Ev.step (fun k => ?_) hn
            simp only [colophonref11_Good.j1]
            rw [if_neg (by decide), if_neg (show ¬ i > 0 from hi), ei]
theorem refGood_ev (l : List S47) (n : Int) (hl : l.length ≤ 100000) : Ev (fun k => colophonref11_Good.f k l n) (goodS l n) := by
  unfold goodS
  by_cases h : 4096 < l.length
  · rw [if_pos h]
    exact Ev.congr (fun k => by unfold colophonref11_Good.f; rw [if_pos (by omega)]) (Ev.now _)
  · rw [if_neg h]
    exact Ev.congr (fun k => by unfold colophonref11_Good.f; rw [if_neg (by omega)]) (refGood_l0 l n hl l.length 0 (by omega) (by omega))
theorem son_append (xs ys : List Int) : strOfNums (xs ++ ys) = strOfNums xs ++ strOfNums ys := by
  apply ByteArray.ext
  simp [strOfNums]
theorem two_s (v : Int) : colophonref11_two.f v = some (strOfNums (p2 v)) := rfl
theorem four_s (v : Int) : colophonref11_fourb.f v = some (strOfNums (p4 v)) := by
  show (if (strOfNums (p2 (v / 65536))).size + (strOfNums (p2 v)).size ≤ 9223372036854775807 then some (strOfNums (p2 (v / 65536)) ++ strOfNums (p2 v)) else none).bind (fun t => some t) = _
  rw [son_size, son_size, if_pos (by simp [p2])]
  rw [← son_append]
  rfl
theorem bytes_son : ∀ xs : List Int, (∀ x ∈ xs, 0 ≤ x ∧ x ≤ 255) → bytesOf (strOfNums xs) = xs := by
  intro xs h
  unfold bytesOf strOfNums
  simp only [List.map_map]
  rw [List.map_congr_left (g := id)]
  · simp
  · intro x hx
    have := h x hx
    simp
    omega
theorem p2_rng (v : Int) : ∀ x ∈ p2 v, 0 ≤ x ∧ x ≤ 255 := by
  intro x hx
  simp [p2] at hx
  omega
theorem p4_rng (v : Int) : ∀ x ∈ p4 v, 0 ≤ x ∧ x ≤ 255 := by
  intro x hx
  rcases List.mem_append.1 hx with h | h
  · exact p2_rng _ x h
  · exact p2_rng _ x h
theorem row12_rng (x : S47) : ∀ y ∈ row12 x, 0 ≤ y ∧ y ≤ 255 := by
  intro y hy
  rcases List.mem_append.1 hy with h | h
  · exact p4_rng _ y h
  · rcases List.mem_append.1 h with h | h
    · exact p4_rng _ y h
    · exact p4_rng _ y h
theorem row12_len (x : S47) : (row12 x).length = 12 := rfl
theorem p2_len (v : Int) : (p2 v).length = 2 := rfl
theorem p4_len (v : Int) : (p4 v).length = 4 := rfl
theorem lit_size (a : Array UInt8) : (⟨a⟩ : ByteArray).size = a.size := rfl
theorem lit0001 : (⟨#[0, 0, 0, 1]⟩ : ByteArray) = strOfNums [0, 0, 0, 1] := rfl
theorem lit01200 : (⟨#[0, 12, 0, 0]⟩ : ByteArray) = strOfNums [0, 12, 0, 0] := rfl
theorem litff00 : (⟨#[255, 255, 0, 0]⟩ : ByteArray) = strOfNums [255, 255, 0, 0] := rfl
theorem litff : (⟨#[255, 255]⟩ : ByteArray) = strOfNums [255, 255] := rfl
theorem lit01 : (⟨#[0, 1]⟩ : ByteArray) = strOfNums [0, 1] := rfl
theorem lit00 : (⟨#[0, 0]⟩ : ByteArray) = strOfNums [0, 0] := rfl
theorem refW_l0 (l : List S47) (hl : l.length ≤ 100000) : ∀ (t : List S47) (n : Nat) (xs : List Int), l.drop n = t → n ≤ l.length → xs.length = 12 * n → Ev (fun k => colophonref11_Build.l0 k l xs (n : Int)) (strOfNums (headW l.length ++ (xs ++ t.flatMap row12)), 0) := by
  intro t
  induction t with
  | nil =>
    intro n xs h hn hx
    have := dropn h
    obtain rfl : n = l.length := by omega
    refine Ev.step (f := fun _ => some (strOfNums (headW l.length ++ xs), 0)) (fun k => ?_) (by simpa using Ev.now _)
    rw [colophonref11_Build.l0, if_neg (by omega)]
    simp only [two_s, four_s, Option.bind_some, lit0001, lit01200, ← son_append, son_size]
    rw [wrap64_small (x := 16 + (xs.length : Int)) (by omega) (by omega)]
    simp only [List.length_append, p2_len, p4_len, List.length_cons, List.length_nil]
    rw [if_pos (by omega), if_pos (by omega), if_pos (by omega), if_pos (by omega), if_pos (by omega), if_pos (by omega), if_pos (by omega), if_pos (by omega)]
    have e : (16 : Int) + (xs.length : Int) = 16 + 12 * (l.length : Int) := by omega
    rw [e]
    congr 3
  | cons v t ih =>
    intro n xs h hn hx
    obtain ⟨hn2, hv, ht⟩ := dropc h
    have h2 := ih (n + 1) (xs ++ row12 v) ht (by omega) (by simp [row12, p4, p2]; omega)
    refine Ev.step (f := fun k => colophonref11_Build.l0 k l (xs ++ row12 v) ((n + 1 : Nat) : Int)) (fun k => ?_) (by simpa [List.flatMap_cons, List.append_assoc] using h2)
    rw [colophonref11_Build.l0, if_pos (by omega), if_pos (by omega), rd47 hn2, hv]
    simp only [four_s, Option.bind_some, ← son_append, son_size]
    rw [show (p4 v.f0 ++ p4 v.f1) ++ p4 v.f2 = row12 v from by simp [row12], bytes_son _ (row12_rng v), row12_len, wrap64_small (by omega) (by omega)]
    rw [if_pos (by simp [p4_len]), if_pos (by simp [p4_len]), if_pos (by omega)]
    rfl
theorem refPower (m : Int) (hm0 : 0 ≤ m) (hm : m ≤ 100000) : ∀ (d : Nat) (p q : Int), m - p ≤ d → 1 ≤ p → p ≤ 100000 → 0 ≤ q → q + d ≤ 1000000 → Ev (fun k => colophonref08_power.l0 k m p q) (powS m d p q) := by
  intro d
  induction d with
  | zero =>
    intro p q h a b c e
    refine Ev.step (f := fun _ => some (p, q)) (fun k => ?_) (Ev.now _)
    rw [colophonref08_power.l0, wrap64_small (x := 2 * p) (by omega) (by omega), if_neg (by omega)]
  | succ d ih =>
    intro p q h a b c e
    simp only [powS]
    by_cases hle : 2 * p ≤ m
    · rw [if_pos hle]
      refine Ev.step (fun k => ?_) (ih (2 * p) (q + 1) (by omega) (by omega) (by omega) (by omega) (by omega))
      rw [colophonref08_power.l0, wrap64_small (x := 2 * p) (by omega) (by omega), if_pos hle, wrap64_small (x := q + 1) (by omega) (by omega)]
    · rw [if_neg hle]
      refine Ev.step (f := fun _ => some (p, q)) (fun k => ?_) (Ev.now _)
      rw [colophonref08_power.l0, wrap64_small (x := 2 * p) (by omega) (by omega), if_neg hle]
theorem refSearch (m : Int) (hm0 : 0 ≤ m) (hm : m ≤ 99999) : Ev (fun k => colophonref08_Search.f k m 2) (strOfNums (p2 (2 * (powS m m.toNat 1 0).1) ++ (p2 (powS m m.toNat 1 0).2 ++ p2 (2 * m - 2 * (powS m m.toNat 1 0).1)))) := by
  have hp := refPower m hm0 (by omega) m.toNat 1 0 (by omega) (by omega) (by omega) (by omega) (by omega)
  have hb := powS_bd (m := m) (by omega) m.toNat 1 0 (by omega) (by omega) (by omega) (by omega)
  generalize powS m m.toNat 1 0 = P at *
  refine Ev.bind (g := fun k => colophonref08_power.f k m) (a := P) hp ?_
  refine Ev.congr (f := fun _ => some (strOfNums (p2 (2 * P.1) ++ (p2 P.2 ++ p2 (2 * m - 2 * P.1))))) (fun k => ?_) (Ev.now _)
  rw [wrap64_small (x := 2 * P.1) (by omega) (by omega), wrap64_small (x := m - P.1) (by omega) (by omega), wrap64_small (x := 2 * (m - P.1)) (by omega) (by omega)]
  have two_t : ∀ v : Int, colophonref08_Two.f v = some (strOfNums (p2 v)) := fun _ => rfl
  simp only [two_t, Option.bind_some, ← son_append, son_size]
  rw [if_pos (by simp [p2_len]), if_pos (by simp [p2_len]), show 2 * (m - P.1) = 2 * m - 2 * P.1 from by omega, List.append_assoc]

/-- the narrow table's bytes, column by column -/
def bytesM (m p q : Int) (A B C D : List Int) : List Int := [0, 1, 3, 1].flatMap p2 ++ ([12].flatMap p4 ++ ([4, 16 + 8 * m, 0, 2 * m, 2 * p, q, 2 * m - 2 * p].flatMap p2 ++ (A ++ ([255, 255, 0, 0] ++ (B ++ ([255, 255] ++ (C ++ ([0, 1] ++ (D ++ [0, 0])))))))))
theorem bytesN_M (l : List S47) (p q : Int) : bytesN (l ++ [endRow]) (l.length + 1) p q = bytesM (l.length + 1) p q (l.flatMap colL) (l.flatMap colF) (l.flatMap colD) (List.replicate (2 * l.length) 0) := by
  unfold bytesN bytesM
  rw [show (2 * ((l.length : Int) + 1)).toNat = 2 * l.length + 2 from by omega, ← List.replicate_append_replicate]
  simp [List.flatMap_append, colL, colF, colD, endRow, p2]
theorem refN_end (l : List S47) (hl : l.length ≤ 4095) (A B C D : List Int) (n : Int) (hn : ¬ n < (l.length : Int)) (hA : A.length = 2 * l.length) (hB : B.length = 2 * l.length) (hC : C.length = 2 * l.length) (hD : D.length = 2 * l.length) :
    Ev (fun k => colophonref11_Build.l1 k l A B C D n) (strOfNums (bytesM (l.length + 1) (powN l).1 (powN l).2 A B C D), 0) := by
  have hs := refSearch ((l.length : Int) + 1) (by omega) (by omega)
  rw [show ((l.length : Int) + 1).toNat = l.length + 1 from by omega] at hs
  change Ev _ (strOfNums (p2 (2 * (powN l).1) ++ (p2 (powN l).2 ++ p2 (2 * ((l.length : Int) + 1) - 2 * (powN l).1)))) at hs
  generalize powN l = P at *
  obtain ⟨K, hK⟩ := hs
  refine ⟨K + 1, fun k hk => ?_⟩
  obtain ⟨k, rfl⟩ : ∃ m, k = m + 1 := ⟨k - 1, by omega⟩
  have hk' : colophonref08_Search.f k ((l.length : Int) + 1) 2 = _ := hK k (by omega)
  show colophonref11_Build.l1 (k + 1) l A B C D n = _
  rw [colophonref11_Build.l1, if_neg hn, wrap64_small (x := (l.length : Int) + 1) (by omega) (by omega), wrap64_small (x := 2 * ((l.length : Int) + 1)) (by omega) (by omega)]
  rw [hk']
  simp only [two_s, four_s, Option.bind_some, lit0001, litff00, litff, lit01, lit00, ← son_append, son_size, List.length_append, p2_len, p4_len, List.length_cons, List.length_nil, hA, hB, hC, hD]
  repeat rw [if_pos (by omega)]
  have e : wrap64 ((((2 + 2 + (2 + (2 + 2)) + 2 * l.length + (0 + 1 + 1 + 1 + 1) + 2 * l.length + (0 + 1 + 1) + 2 * l.length + (0 + 1 + 1) + 2 * l.length + (0 + 1 + 1) : Nat)) : Int) + 4) = 16 + 8 * ((l.length : Int) + 1) := by
    rw [wrap64_small (by omega) (by omega)]; omega
  rw [e]
  simp [bytesM, p4, p2]
theorem refN_l1 (l : List S47) (hl : l.length ≤ 4095) : ∀ (t : List S47) (n : Nat) (A B C D : List Int), l.drop n = t → n ≤ l.length → (∀ x ∈ t, x.f1 ≤ 65534 ∧ -10000000 ≤ x.f2 - x.f0 ∧ x.f2 - x.f0 ≤ 10000000) → A.length = 2 * n → B.length = 2 * n → C.length = 2 * n → D.length = 2 * n →
    Ev (fun k => colophonref11_Build.l1 k l A B C D (n : Int)) (strOfNums (bytesM (l.length + 1) (powN l).1 (powN l).2 (A ++ t.flatMap colL) (B ++ t.flatMap colF) (C ++ t.flatMap colD) (D ++ List.replicate (2 * t.length) 0)), 0) := by
  intro t
  induction t with
  | nil =>
    intro n A B C D h hn hf hA hB hC hD
    have := dropn h
    obtain rfl : n = l.length := by omega
    have := refN_end l hl A B C D (l.length : Int) (by omega) hA hB hC hD
    simpa using this
  | cons v t ih =>
    intro n A B C D h hn hf hA hB hC hD
    obtain ⟨hn2, hv, ht⟩ := dropc h
    have hfv := hf v (List.mem_cons_self ..)
    have h2 := ih (n + 1) (A ++ colL v) (B ++ colF v) (C ++ colD v) (D ++ [0, 0]) ht (by omega) (fun x hx => hf x (List.mem_cons_of_mem _ hx)) (by simp [colL, p2]; omega) (by simp [colF, p2]; omega) (by simp [colD, p2]; omega) (by simp; omega)
    have er : D ++ List.replicate (2 * (v :: t).length) 0 = (D ++ [0, 0]) ++ List.replicate (2 * t.length) 0 := by
      rw [List.length_cons, show 2 * (t.length + 1) = 2 + 2 * t.length from by omega, ← List.replicate_append_replicate]
      simp
    rw [er, List.flatMap_cons, List.flatMap_cons, List.flatMap_cons, ← List.append_assoc A, ← List.append_assoc B, ← List.append_assoc C]
    refine Ev.step (f := fun k => colophonref11_Build.l1 k l (A ++ colL v) (B ++ colF v) (C ++ colD v) (D ++ [0, 0]) ((n + 1 : Nat) : Int)) (fun k => ?_) h2
    rw [colophonref11_Build.l1, if_pos (by omega), if_pos (by omega), rd47 hn2, hv, if_neg (by omega), wrap64_small (x := v.f2 - v.f0) (by omega) (by omega), wrap64_small (x := (n : Int) + 1) (by omega) (by omega)]
    simp only [two_s, Option.bind_some, bytes_son _ (p2_rng _), son_size, p2_len, List.length_cons, List.length_nil]
    rw [if_pos (by omega), if_pos (by omega), if_pos (by omega), if_pos (by omega)]
    rfl
theorem refN_l1_bad (l : List S47) (hl : l.length ≤ 4095) : ∀ (t : List S47) (n : Nat) (A B C D : List Int), l.drop n = t → n ≤ l.length → (∃ x ∈ t, 65534 < x.f1) → (∀ x ∈ t, -10000000 ≤ x.f2 - x.f0 ∧ x.f2 - x.f0 ≤ 10000000) → A.length = 2 * n → B.length = 2 * n → C.length = 2 * n → D.length = 2 * n →
    Ev (fun k => colophonref11_Build.l1 k l A B C D (n : Int)) ((⟨#[]⟩ : ByteArray), 110) := by
  intro t
  induction t with
  | nil => rintro n A B C D h hn ⟨x, hx, _⟩; cases hx
  | cons v t ih =>
    intro n A B C D h hn hf hb hA hB hC hD
    obtain ⟨hn2, hv, ht⟩ := dropc h
    by_cases hbad : 65534 < v.f1
    · refine Ev.step (f := fun _ => some (⟨#[]⟩, 110)) (fun k => ?_) (Ev.now _)
      rw [colophonref11_Build.l1, if_pos (by omega), if_pos (by omega), rd47 hn2, hv, if_pos hbad]
    · have hbv := hb v (List.mem_cons_self ..)
      have h2 := ih (n + 1) (A ++ colL v) (B ++ colF v) (C ++ colD v) (D ++ [0, 0]) ht (by omega) (by
        obtain ⟨x, hx, hlt⟩ := hf
        rcases List.mem_cons.1 hx with rfl | hx
        · exact absurd hlt hbad
        · exact ⟨x, hx, hlt⟩) (fun x hx => hb x (List.mem_cons_of_mem _ hx)) (by simp [colL, p2]; omega) (by simp [colF, p2]; omega) (by simp [colD, p2]; omega) (by simp; omega)
      refine Ev.step (f := fun k => colophonref11_Build.l1 k l (A ++ colL v) (B ++ colF v) (C ++ colD v) (D ++ [0, 0]) ((n + 1 : Nat) : Int)) (fun k => ?_) h2
      rw [colophonref11_Build.l1, if_pos (by omega), if_pos (by omega), rd47 hn2, hv, if_neg (by omega), wrap64_small (x := v.f2 - v.f0) (by omega) (by omega), wrap64_small (x := (n : Int) + 1) (by omega) (by omega)]
      simp only [two_s, Option.bind_some, bytes_son _ (p2_rng _), son_size, p2_len, List.length_cons, List.length_nil]
      rw [if_pos (by omega), if_pos (by omega), if_pos (by omega), if_pos (by omega)]
      rfl
theorem refN_ev (l : List S47) (hl : l.length ≤ 100000) : Ev (fun k => colophonref11_Build.f k l false) (buildN l) := by
  have hG := refGood_ev l 4096 hl
  unfold buildN
  cases hg : goodS l 4096 with
  | false =>
    rw [hg] at hG
    rw [if_pos rfl]
    refine Ev.bind hG ?_
    simp only [Bool.false_eq_true, if_false]
    exact Ev.now _
  | true =>
    rw [hg] at hG
    rw [if_neg (by decide)]
    have hb : ∀ x ∈ l, -10000000 ≤ x.f2 - x.f0 ∧ x.f2 - x.f0 ≤ 10000000 := fun x hx => narrow_bd hg x (List.mem_append_left _ hx)
    by_cases h1 : l.length ≤ 4095
    · rw [if_neg (by omega)]
      by_cases h2 : ∃ x ∈ l, 65534 < x.f1
      · rw [if_pos h2]
        refine Ev.bind hG ?_
        simp only [if_true, Bool.false_eq_true, if_false, if_neg (show ¬ (l.length : Int) > 4095 from by omega)]
        exact refN_l1_bad l h1 l 0 [] [] [] [] rfl (Nat.zero_le _) h2 hb rfl rfl rfl rfl
      · rw [if_neg h2]
        refine Ev.bind hG ?_
        simp only [if_true, Bool.false_eq_true, if_false, if_neg (show ¬ (l.length : Int) > 4095 from by omega)]
        have := refN_l1 l h1 l 0 [] [] [] [] rfl (Nat.zero_le _) (fun x hx => ⟨Int.not_lt.1 (fun h => h2 ⟨x, hx, h⟩), hb x hx⟩) rfl rfl rfl rfl
        rw [bytesN_M]
        simpa using this
    · rw [if_pos (by omega)]
      refine Ev.bind hG ?_
      simp only [if_true, Bool.false_eq_true, if_false, if_pos (show (l.length : Int) > 4095 from by omega)]
      exact Ev.now _
theorem refW_ev (l : List S47) (hl : l.length ≤ 100000) : Ev (fun k => colophonref11_Build.f k l true) (if goodS l 4096 = true then (strOfNums (headW l.length ++ l.flatMap row12), 0) else ((⟨#[]⟩ : ByteArray), 110)) := by
  refine Ev.bind (refGood_ev l 4096 hl) ?_
  cases hg : goodS l 4096 with
  | false => simp only [Bool.false_eq_true, if_false]; exact Ev.now _
  | true =>
    simp only [if_true]
    have := refW_l0 l hl l 0 [] rfl (Nat.zero_le _) rfl
    simpa using this
/-- What is built of any list, in either format, is what the reference builds. -/
theorem CmapBuilds : ∀ (l : List S47) (a1 : Bool), (∀ x ∈ l, (Lit.int .i64 x.f0).wf = true ∧ (Lit.int .i64 x.f1).wf = true ∧ (Lit.int .i64 x.f2).wf = true) → l.length * 24 ≤ 140737488351232 → ∃ k, colophonlaw11_CmapBuilds.f k l a1 = some true := by
  intro l wide hw hs
  have hs : l.length * 24 ≤ 140737488351232 := hs
  refine Ev.rounds (r := true) ?_
  by_cases h : (l.length : Int) > 5000
  · refine Ev.congr (f := fun k => (colophonlaw11_wakes.f k).bind fun x => some x) (fun k => by unfold colophonlaw11_CmapBuilds.f; rw [if_pos h]) ?_
    exact Ev.bind wakes_ev (Ev.now _)
  · have hl : l.length ≤ 100000 := by omega
    have both : ∃ r, Ev (fun k => cmap_Build.f k l wide) r ∧ Ev (fun k => colophonref11_Build.f k l wide) r := by
      cases wide with
      | true => exact ⟨_, BuildW_ev l hl, refW_ev l hl⟩
      | false => exact ⟨_, BuildN_ev' l hl, refN_ev l hl⟩
    obtain ⟨r, h1, h2⟩ := both
    refine Ev.congr (f := fun k => (cmap_Build.f k l wide).bind fun bt395 => ((colophonref11_Build.f k l wide).bind fun bt397 => (if bt395.1.toList = bt397.1.toList then (if bt395.2 = bt397.2 then ((colophonlaw11_wakes.f k).bind fun t399 => (some t399)) else (some false)) else (some false)))) (fun k => ?_) ?_
    · unfold colophonlaw11_CmapBuilds.f
      rw [if_neg h]
      simp only [Option.bind_some, List.nil_append]
      rw [if_pos (by simp; omega)]
    · refine Ev.bind h1 (Ev.bind h2 ?_)
      simp only [if_true]
      exact Ev.bind wakes_ev (Ev.now _)

end Go.Proofs.Ytldcgkkbmnahiaa.Pure
