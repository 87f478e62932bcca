/- CmapSends: what is found in what was read of a table of groups is what the groups send there. No condition beyond the statement's own. -/
import Derived.Test.YtldcgkkbmnahiaaRt
import Derived.Test.YtldcgkkbmnahiaaPxx22
namespace Go.Proofs.Ytldcgkkbmnahiaa.Pure
set_option linter.unusedSimpArgs false
set_option linter.unusedVariables false
open Go.RowKit Go.Proofs.Ytldcgkkbmnahiaa.Px Go.Proofs.YtldcgkkbmnahiaaW.PrintWords Go.Proofs.YtldcgkkbmnahiaaW.PrintLast Go.Proofs.YtldcgkkbmnahiaaW.PrintMore

theorem son_append (xs ys : List Int) : strOfNums (xs ++ ys) = strOfNums xs ++ strOfNums ys := by
  apply ByteArray.ext
  simp [strOfNums]
theorem four_p4 (v : Int) : colophonlaw11_four.f v = some (strOfNums (p4 v)) := by
  unfold colophonlaw11_four.f p4 p2
  rw [show v / 16777216 = v / 65536 / 256 from by omega]
  rfl
theorem bytes_son : ∀ xs : List Int, (∀ x ∈ xs, 0 ≤ x ∧ x ≤ 255) → bytesOf (strOfNums xs) = xs := by
  intro xs h
  unfold bytesOf strOfNums
  simp only [List.map_map]
  rw [List.map_congr_left (g := id)]
  · simp
  · intro x hx
    have := h x hx
    simp
    omega
theorem p2_rng (v : Int) : ∀ x ∈ p2 v, 0 ≤ x ∧ x ≤ 255 := by
  intro x hx
  simp [p2] at hx
  omega
theorem p4_rng (v : Int) : ∀ x ∈ p4 v, 0 ≤ x ∧ x ≤ 255 := by
  intro x hx
  rcases List.mem_append.1 hx with h | h
  · exact p2_rng _ x h
  · exact p2_rng _ x h
theorem row12_rng (x : S47) : ∀ y ∈ row12 x, 0 ≤ y ∧ y ≤ 255 := by
  intro y hy
  rcases List.mem_append.1 hy with h | h
  · exact p4_rng _ y h
  · rcases List.mem_append.1 h with h | h
    · exact p4_rng _ y h
    · exact p4_rng _ y h
def head16 (n : Int) : List Int := p4 786432 ++ (p4 (16 + 12 * n) ++ (p4 0 ++ p4 n))
theorem row12_len (x : S47) : (row12 x).length = 12 := rfl
theorem p4_len (v : Int) : (p4 v).length = 4 := rfl
theorem wide_rows {l : List S47} (bdl : ∀ (j : Nat) (hj : j < l.length), (0 ≤ l[j].f0 ∧ l[j].f0 < 4294967296) ∧ (0 ≤ l[j].f1 ∧ l[j].f1 < 4294967296) ∧ 0 ≤ l[j].f2 ∧ l[j].f2 < 4294967296) (j : Nat) (hj : j < l.length) :
    gA (strOfNums (head16 l.length ++ l.flatMap row12)) j = l[j].f0 ∧ gB (strOfNums (head16 l.length ++ l.flatMap row12)) j = l[j].f1 ∧ gG (strOfNums (head16 l.length ++ l.flatMap row12)) j = l[j].f2 := by
  have bd := bdl j hj
  have hget : ∀ q, q < 12 → (head16 (l.length : Int) ++ l.flatMap row12)[16 + 12 * j + q]? = (row12 l[j])[q]? := by
    intro q hq
    rw [List.getElem?_append_right (by show 16 ≤ _; omega)]
    rw [show 16 + 12 * j + q - (head16 (l.length : Int)).length = 12 * j + q from by show 16 + 12 * j + q - 16 = _; omega]
    exact flat_get row12 12 row12_len l j q hj hq
  refine ⟨?_, ?_, ?_⟩
  · unfold gA
    have := son_fo (head16 (l.length : Int) ++ l.flatMap row12) (16 + 12 * j) l[j].f0 (by omega) (fun q hq => by rw [hget q (by omega)]; match q, hq with | 0, _ => rfl | 1, _ => rfl | 2, _ => rfl | 3, _ => rfl)
    rw [show (16 : Int) + 12 * (j : Int) = ((16 + 12 * j : Nat) : Int) from by omega, this]
    omega
  · unfold gB
    have := son_fo (head16 (l.length : Int) ++ l.flatMap row12) (16 + 12 * j + 4) l[j].f1 (by omega) (fun q hq => by rw [show 16 + 12 * j + 4 + q = 16 + 12 * j + (4 + q) from by omega, hget (4 + q) (by omega)]; match q, hq with | 0, _ => rfl | 1, _ => rfl | 2, _ => rfl | 3, _ => rfl)
    rw [show (16 : Int) + 12 * (j : Int) + 4 = ((16 + 12 * j + 4 : Nat) : Int) from by omega, this]
    omega
  · unfold gG
    have := son_fo (head16 (l.length : Int) ++ l.flatMap row12) (16 + 12 * j + 8) l[j].f2 (by omega) (fun q hq => by rw [show 16 + 12 * j + 8 + q = 16 + 12 * j + (8 + q) from by omega, hget (8 + q) (by omega)]; match q, hq with | 0, _ => rfl | 1, _ => rfl | 2, _ => rfl | 3, _ => rfl)
    rw [show (16 : Int) + 12 * (j : Int) + 8 = ((16 + 12 * j + 8 : Nat) : Int) from by omega, this]
    omega
theorem send_groups {R : List S47} (h : RowsOk 0 R) (hl : R.length ≤ 60) : groupsS (strOfNums (head16 R.length ++ R.flatMap row12)) 4096 [] = (true, (sendR [] R).reverse) := by
  have hz : (strOfNums (head16 R.length ++ R.flatMap row12)).size = 16 + 12 * R.length := by
    rw [son_size, List.length_append, flat_len row12 12 row12_len]; rfl
  have f0 : fo (strOfNums (head16 R.length ++ R.flatMap row12)) 0 = 786432 := by
    have := son_fo (head16 (R.length : Int) ++ R.flatMap row12) 0 786432 (by omega) (fun q hq => by match q, hq with | 0, _ => rfl | 1, _ => rfl | 2, _ => rfl | 3, _ => rfl)
    exact this
  have f4 : fo (strOfNums (head16 R.length ++ R.flatMap row12)) 4 = 16 + 12 * (R.length : Int) := by
    have := son_fo (head16 (R.length : Int) ++ R.flatMap row12) 4 (16 + 12 * (R.length : Int)) (by omega) (fun q hq => by match q, hq with | 0, _ => rfl | 1, _ => rfl | 2, _ => rfl | 3, _ => rfl)
    have e : fo (strOfNums (head16 R.length ++ R.flatMap row12)) 4 = (16 + 12 * (R.length : Int)) % 4294967296 := this
    rw [e]; omega
  have f12 : fo (strOfNums (head16 R.length ++ R.flatMap row12)) 12 = (R.length : Int) := by
    have := son_fo (head16 (R.length : Int) ++ R.flatMap row12) 12 (R.length : Int) (by omega) (fun q hq => by match q, hq with | 0, _ => rfl | 1, _ => rfl | 2, _ => rfl | 3, _ => rfl)
    have e : fo (strOfNums (head16 R.length ++ R.flatMap row12)) 12 = (R.length : Int) % 4294967296 := this
    rw [e]; omega
  unfold groupsS
  rw [hz, f0, f4, f12, if_neg (by omega), if_neg (by simp), if_neg (by omega), if_neg (by simp), if_neg (by omega)]
  rw [show ((R.length : Int)).toNat = R.length from rfl]
  have hrow := fun j hj => wide_rows (l := R) (fun j hj => by have := rows_at h (Int.le_refl 0) j hj; omega) j hj
  obtain ⟨a, b⟩ := rows_back' hrow R 0 0 (-1) [] rfl h (by omega) (by omega) trivial (fun y hy => by cases hy)
  have a' : rowsOk (strOfNums (head16 R.length ++ R.flatMap row12)) 4096 R.length 0 (-1) := a
  rw [groupsL_ok _ _ _ _ a']
  exact congrArg (Prod.mk true) b
theorem send_read {R : List S47} (h : RowsOk 0 R) (hl : R.length ≤ 60) : readS (strOfNums ([0, 0, 0, 1, 0, 0, 0, 4, 0, 0, 0, 12] ++ (head16 R.length ++ R.flatMap row12))) 4096 = ((sendR [] R).reverse, 0) := by
  have hlen := (send_ok R 0 [] 0 0 h (by omega) trivial (fun y hy => by cases hy) rfl).2.2
  have hz : (strOfNums ([0, 0, 0, 1, 0, 0, 0, 4, 0, 0, 0, 12] ++ (head16 R.length ++ R.flatMap row12))).size = 28 + 12 * R.length := by
    rw [son_size, List.length_append, List.length_append, flat_len row12 12 row12_len]
    show 12 + (16 + 12 * R.length) = _
    omega
  have t0 : tw (strOfNums ([0, 0, 0, 1, 0, 0, 0, 4, 0, 0, 0, 12] ++ (head16 R.length ++ R.flatMap row12))) 0 = 0 := son_tw _ 0 0 (by omega) rfl rfl
  have t2 : tw (strOfNums ([0, 0, 0, 1, 0, 0, 0, 4, 0, 0, 0, 12] ++ (head16 R.length ++ R.flatMap row12))) 2 = 1 := son_tw _ 2 1 (by omega) rfl rfl
  have t4 : tw (strOfNums ([0, 0, 0, 1, 0, 0, 0, 4, 0, 0, 0, 12] ++ (head16 R.length ++ R.flatMap row12))) 4 = 0 := son_tw _ 4 0 (by omega) rfl rfl
  have t6 : tw (strOfNums ([0, 0, 0, 1, 0, 0, 0, 4, 0, 0, 0, 12] ++ (head16 R.length ++ R.flatMap row12))) 6 = 4 := son_tw _ 6 4 (by omega) rfl rfl
  have f8 : fo (strOfNums ([0, 0, 0, 1, 0, 0, 0, 4, 0, 0, 0, 12] ++ (head16 R.length ++ R.flatMap row12))) 8 = 12 := son_fo _ 8 12 (by omega) (fun q hq => by match q, hq with | 0, _ => rfl | 1, _ => rfl | 2, _ => rfl | 3, _ => rfl)
  have hd := son_drop ([0, 0, 0, 1, 0, 0, 0, 4, 0, 0, 0, 12] ++ (head16 R.length ++ R.flatMap row12)) 12
  have hd2 : List.drop 12 (([0, 0, 0, 1, 0, 0, 0, 4, 0, 0, 0, 12] : List Int) ++ (head16 (R.length : Int) ++ R.flatMap row12)) = head16 (R.length : Int) ++ R.flatMap row12 := rfl
  rw [hd2] at hd
  generalize strOfNums ([0, 0, 0, 1, 0, 0, 0, 4, 0, 0, 0, 12] ++ (head16 (R.length : Int) ++ R.flatMap row12)) = T at *
  have hc : countS T = (12, true, true) := by
    unfold countS
    rw [if_neg (by omega), t0, if_neg (by simp), t2, if_neg (by omega)]
    rw [show (1 : Int).toNat = 0 + 1 from rfl, countL_W (Int.le_refl _) (by unfold isW mP mE; rw [show (4 : Int) + 8 * 0 = 4 from rfl, show (6 : Int) + 8 * 0 = 6 from rfl, t4, t6]; rfl)]
    unfold mA
    rw [show (8 : Int) + 8 * 0 = 8 from rfl, f8]
  unfold readS
  rw [if_neg (by decide), if_neg (by decide), hc]
  unfold endS
  rw [if_neg (show ¬ ((12, true, true) : Int × Bool × Bool).2.2 = false from Bool.noConfusion), if_neg (show ¬ (T.size : Int) - 4 < ((12, true, true) : Int × Bool × Bool).1 from by show ¬ (T.size : Int) - 4 < 12; omega)]
  have hm : mapS T 4096 12 true = (true, (sendR [] R).reverse) := by
    unfold mapS
    rw [if_pos rfl, show (12 : Int).toNat = 12 from rfl, hd]
    exact send_groups h hl
  show doneS (mapS T 4096 12 true) = _
  rw [hm]
  unfold doneS
  rw [if_pos ⟨rfl, by show (sendR [] R).reverse.length ≤ 4096; rw [List.length_reverse]; simp at hlen; omega⟩]
/-- rows, one more behind them -/
def endOf (a : Int) : List S47 → Int
  | [] => a
  | x :: t => endOf (x.f1 + 1) t
theorem rows_snoc : ∀ (R : List S47) (a : Int) (x : S47), RowsOk a R → endOf a R ≤ x.f0 → x.f0 ≤ x.f1 → x.f1 ≤ 1114111 → x.f1 - x.f0 < 300 → 0 ≤ x.f2 → x.f2 ≤ 3000 → RowsOk a (R ++ [x]) ∧ endOf a (R ++ [x]) = x.f1 + 1 := by
  intro R
  induction R with
  | nil => intro a x _ h1 h2 h3 h4 h5 h6; exact ⟨⟨h1, h2, h3, h4, h5, h6, trivial⟩, rfl⟩
  | cons y t ih =>
    intro a x h h1 h2 h3 h4 h5 h6
    obtain ⟨r1, r2, r3, r4, r5, r6, r7⟩ := h
    obtain ⟨p, q⟩ := ih (y.f1 + 1) x r7 h1 h2 h3 h4 h5 h6
    exact ⟨⟨r1, r2, r3, r4, r5, r6, p⟩, q⟩
theorem want_snoc : ∀ (R : List S47) (c w : Int) (x : S47), wantR c w (R ++ [x]) = if (x.f0 ≤ c ∧ c ≤ x.f1) ∧ ¬ (55296 ≤ c ∧ c ≤ 57343) then x.f2 + (c - x.f0) else wantR c w R := by
  intro R
  induction R with
  | nil => intro c w x; rfl
  | cons y t ih => intro c w x; exact ih c _ x
theorem end_lo : ∀ (R : List S47) (a : Int), RowsOk a R → 0 ≤ a → 0 ≤ endOf a R := by
  intro R
  induction R with
  | nil => intro a _ h; exact h
  | cons y t ih => intro a h h0; obtain ⟨r1, r2, r3, r4, r5, r6, r7⟩ := h; exact ih (y.f1 + 1) r7 (by omega)
theorem end_hi : ∀ (R : List S47) (a : Int), RowsOk a R → a ≤ 1114112 → endOf a R ≤ 1114112 := by
  intro R
  induction R with
  | nil => intro a _ h; exact h
  | cons y t ih => intro a h h0; obtain ⟨r1, r2, r3, r4, r5, r6, r7⟩ := h; exact ih (y.f1 + 1) r7 (by omega)

theorem rdd' {xs : List Int} {n : Nat} (h : n < xs.length) : rd xs (n : Int) = xs[n] := rdd h
/-- behind the loop: what was built is read, found and good -/
theorem sends_end (gaps longs glyphs : List Int) (c : Int) (hc : i64in c) (R : List S47) (a i : Int) (h : RowsOk 0 R) (hl : R.length ≤ 60) :
    Ev (fun k => colophonlaw11_CmapSends.j1 k gaps longs glyphs c (R.flatMap row12) a (wantR c 0 R) (R.length : Int) i false) true := by
  have hrd := send_read h hl
  obtain ⟨g1, g2, g3⟩ := send_ok R 0 [] c 0 h (by omega) trivial (fun y hy => by cases hy) rfl
  have hlen : (sendR [] R).reverse.length ≤ 60 := by rw [List.length_reverse]; simp at g3; omega
  have hgood : goodS (sendR [] R).reverse 4096 = true := g1.good (by rw [List.length_reverse] at hlen; omega)
  have hfind : findS (sendR [] R).reverse c (sendR [] R).reverse.length 0 = wantR c 0 R := by rw [g1.findS, g2]
  have hw : ∀ x ∈ (sendR [] R).reverse, Wf47 x := fun x hx => by
    have := g1.all x (List.mem_reverse.1 hx)
    unfold P1 at this
    unfold Wf47 i64in
    omega
  have e1 := Find_ev (sendR [] R).reverse c (by omega) hw hc (sendR [] R).reverse.length 0 (by omega) (by omega)
  rw [hfind] at e1
  have e2 := Good_ev (sendR [] R).reverse 4096 (by omega)
  rw [hgood] at e2
  have hz : (strOfNums ([0, 0, 0, 1, 0, 0, 0, 4, 0, 0, 0, 12] ++ (head16 R.length ++ R.flatMap row12))).size ≤ 140737488351232 := by
    rw [son_size, List.length_append, List.length_append, flat_len row12 12 row12_len]
    show 12 + (16 + 12 * R.length) ≤ _
    omega
  have e0 := Read_ev _ 4096 hz
  rw [hrd] at e0
  refine Ev.step (f := fun k => (cmap_Read.f k (strOfNums ([0, 0, 0, 1, 0, 0, 0, 4, 0, 0, 0, 12] ++ (head16 R.length ++ R.flatMap row12))) 4096).bind fun bt463 => (if bt463.2 = 0 then ((cmap_Find.f k bt463.1 c).bind fun t467 => (if t467 = wantR c 0 R then ((cmap_Good.f k bt463.1 4096).bind fun t468 => (if t468 = true then ((colophonlaw11_wakes.f k).bind fun t469 => (some t469)) else (some false))) else (some false))) else (some false))) (fun k => ?_) ?_
  · simp only [colophonlaw11_CmapSends.j1]
    rw [if_neg (by decide), wrap64_small (x := 12 * (R.length : Int)) (by omega) (by omega), wrap64_small (x := 16 + 12 * (R.length : Int)) (by omega) (by omega)]
    simp only [four_p4, Option.bind_some, show (⟨#[0, 0, 0, 1, 0, 0, 0, 4, 0, 0, 0, 12, 0, 12, 0, 0]⟩ : ByteArray) = strOfNums [0, 0, 0, 1, 0, 0, 0, 4, 0, 0, 0, 12, 0, 12, 0, 0] from rfl, ← son_append, son_size, List.length_append, p4_len, List.length_cons, List.length_nil, flat_len row12 12 row12_len]
    rw [if_pos (by omega), if_pos (by omega), if_pos (by omega), if_pos (by omega)]
    have e : ([0, 0, 0, 1, 0, 0, 0, 4, 0, 0, 0, 12, 0, 12, 0, 0] ++ p4 (16 + 12 * (R.length : Int)) ++ p4 0 ++ p4 (R.length : Int) ++ R.flatMap row12 : List Int) = [0, 0, 0, 1, 0, 0, 0, 4, 0, 0, 0, 12] ++ (head16 R.length ++ R.flatMap row12) := by
      simp [head16, p4, p2]
    rw [e]
  · refine Ev.bind e0 ?_
    simp only [if_true]
    refine Ev.bind e1 ?_
    simp only [if_true]
    refine Ev.bind e2 ?_
    simp only [if_true]
    exact Ev.bind wakes_ev (Ev.now _)
theorem suc_w (i : Nat) (h : i ≤ 1000) : wrap64 ((i : Int) + 1) = ((i + 1 : Nat) : Int) := by rw [wrap64_small (by omega) (by omega)]; omega
theorem far_w (gl c a : Int) (h0 : 0 ≤ gl) (h1 : gl ≤ 3000) (h2 : 0 ≤ c) (h3 : c ≤ 2000000) (h4 : 0 ≤ a) (h5 : a ≤ 2000000) : wrap64 (wrap64 (gl + c) - a) = gl + (c - a) := by
  rw [wrap64_small (x := gl + c) (by omega) (by omega), wrap64_small (by omega) (by omega)]; omega
/-- the loop -/
theorem sends_l0 (gaps longs glyphs : List Int) (c : Int) (hc : i64in c) (hg : gaps.length ≤ 17592186043904) : ∀ (d i : Nat) (R : List S47), i + d = 60 → R.length = i → RowsOk 0 R → i ≤ 60 →
    Ev (fun k => colophonlaw11_CmapSends.l0 k gaps longs glyphs c (R.flatMap row12) (endOf 0 R) (wantR c 0 R) (R.length : Int) (i : Int)) true := by
  have hwk : ∀ (x7 : List Int) (x8 x9 x10 i : Int), Ev (fun k => colophonlaw11_CmapSends.j2 k gaps longs glyphs c x7 x8 x9 x10 i true) true := fun x7 x8 x9 x10 i =>
    Ev.step (f := fun k => (colophonlaw11_wakes.f k).bind fun t => some t) (fun k => by simp only [colophonlaw11_CmapSends.j2, if_true]) (Ev.bind wakes_ev (Ev.now _))
  intro d
  induction d with
  | zero =>
    intro i R hi hR h hi60
    have he := sends_end gaps longs glyphs c hc R (endOf 0 R) (i : Int) h (by omega)
    refine Ev.step (fun k => ?_) he
    rw [colophonlaw11_CmapSends.l0, decide_eq_false (show ¬ (i : Int) < 60 by omega)]
    simp only [ite_self]
  | succ d ih =>
    intro i R hi hR h hi60
    have he := sends_end gaps longs glyphs c hc R (endOf 0 R) (i : Int) h (by omega)
    by_cases a1 : (i : Int) < (gaps.length : Int) ∧ (i : Int) < (longs.length : Int) ∧ (i : Int) < (glyphs.length : Int)
    · obtain ⟨b1, b2, b3⟩ := a1
      refine Ev.step (f := fun k => colophonlaw11_CmapSends.j1 k gaps longs glyphs c (R.flatMap row12) (endOf 0 R) (wantR c 0 R) (R.length : Int) (i : Int) true) (fun k => ?_) ?_
      · rw [colophonlaw11_CmapSends.l0, if_pos b1, if_pos b2, if_pos b3, decide_eq_true (show (i : Int) < 60 by omega)]
      · have q1 := rdd' (show i < gaps.length by omega)
        have q2 := rdd' (show i < longs.length by omega)
        have q3 := rdd' (show i < glyphs.length by omega)
        generalize hga : gaps[i]'(by omega) = ga at *
        generalize hlo : longs[i]'(by omega) = lo at *
        generalize hgl : glyphs[i]'(by omega) = gl at *
        have h0 := end_lo R 0 h (Int.le_refl 0)
        have h1 := end_hi R 0 h (by omega)
        generalize hat : endOf 0 R = at_ at *
        by_cases bad : ga < 0 ∨ 20000 < ga ∨ lo < 1 ∨ 300 < lo ∨ gl < 0 ∨ 3000 < gl
        · refine Ev.step (fun k => ?_) (hwk (R.flatMap row12) at_ (wantR c 0 R) (R.length : Int) (i : Int))
          simp only [colophonlaw11_CmapSends.j1]
          rw [if_pos trivial, if_pos (show (0 : Int) ≤ (i : Int) by omega), if_pos b1, q1]
          by_cases c1 : ga < 0
          · rw [if_pos c1]
          · rw [if_neg c1]
            by_cases c2 : ga > 20000
            · rw [if_pos c2]
            · rw [if_neg c2, if_pos b2, q2]
              by_cases c3 : lo < 1
              · rw [if_pos c3]
              · rw [if_neg c3]
                by_cases c4 : lo > 300
                · rw [if_pos c4]
                · rw [if_neg c4, if_pos b3, q3]
                  by_cases c5 : gl < 0
                  · rw [if_pos c5]
                  · rw [if_neg c5, if_pos (by omega)]
        · have e1 : wrap64 (at_ + ga) = at_ + ga := wrap64_small (by omega) (by omega)
          have e2 : wrap64 (at_ + ga + lo) = at_ + ga + lo := wrap64_small (by omega) (by omega)
          have e3 : wrap64 (at_ + ga + lo - 1) = at_ + ga + lo - 1 := wrap64_small (by omega) (by omega)
          have e4 : wrap64 (at_ + ga + lo - 1 + 1) = at_ + ga + lo - 1 + 1 := wrap64_small (by omega) (by omega)
          refine Ev.step (f := fun k => colophonlaw11_CmapSends.j2 k gaps longs glyphs c (R.flatMap row12) at_ (wantR c 0 R) (R.length : Int) (i : Int) (decide (at_ + ga + lo > 1114112))) (fun k => ?_) ?_
          · simp only [colophonlaw11_CmapSends.j1]
            rw [if_pos trivial, if_pos (show (0 : Int) ≤ (i : Int) by omega), if_pos b1, q1, if_neg (by omega), if_neg (by omega), if_pos b2, q2, if_neg (by omega), if_neg (by omega), if_pos b3, q3, if_neg (by omega), if_neg (by omega), e1, e2]
          · by_cases over : at_ + ga + lo > 1114112
            · rw [decide_eq_true over]; exact hwk _ _ _ _ _
            · rw [decide_eq_false over]
              obtain ⟨r1, r2⟩ := rows_snoc R 0 (⟨at_ + ga, at_ + ga + lo - 1, gl⟩ : S47) h (by rw [hat]; show at_ ≤ at_ + ga; omega) (by show at_ + ga ≤ at_ + ga + lo - 1; omega) (by show at_ + ga + lo - 1 ≤ _; omega) (by show at_ + ga + lo - 1 - (at_ + ga) < 300; omega) (by show 0 ≤ gl; omega) (by show gl ≤ 3000; omega)
              have ws := want_snoc R c 0 (⟨at_ + ga, at_ + ga + lo - 1, gl⟩ : S47)
              have hn := ih (i + 1) (R ++ [(⟨at_ + ga, at_ + ga + lo - 1, gl⟩ : S47)]) (by omega) (by simp; omega) r1 (by omega)
              rw [r2, ws, List.flatMap_append, List.length_append, List.length_singleton] at hn
              simp only [List.flatMap_cons, List.flatMap_nil, List.append_nil] at hn
              unfold i64in at hc
              refine Ev.step (fun k => ?_) hn
              simp only [colophonlaw11_CmapSends.j2]
              rw [if_neg (by decide), if_pos (show (0 : Int) ≤ (i : Int) by omega), if_pos b1, if_pos b2, q1, q2, q3, e1, e2, e3, e4]
              simp only [four_p4, Option.bind_some, ← son_append, son_size]
              rw [show (p4 (at_ + ga) ++ p4 (at_ + ga + lo - 1)) ++ p4 gl = row12 (⟨at_ + ga, at_ + ga + lo - 1, gl⟩ : S47) from by simp [row12], bytes_son _ (row12_rng _), row12_len]
              rw [if_pos (by rw [p4_len, p4_len]; omega), if_pos b3, if_pos (by rw [List.length_append, p4_len, p4_len, p4_len]; omega), if_pos (by rw [flat_len row12 12 row12_len]; omega)]
              rw [suc_w i (by omega), suc_w R.length (by omega)]
              by_cases c1 : c ≥ at_ + ga
              · rw [if_pos c1]
                by_cases c2 : c ≤ at_ + ga + lo - 1
                · rw [if_pos c2]
                  rw [far_w gl c (at_ + ga) (by omega) (by omega) (by omega) (by omega) (by omega) (by omega)]
                  by_cases c3 : c < 55296
                  · rw [if_pos c3, if_pos ⟨⟨c1, c2⟩, by omega⟩]
                  · rw [if_neg c3]
                    by_cases c4 : c > 57343
                    · rw [if_pos c4, if_pos ⟨⟨c1, c2⟩, by omega⟩]
                    · rw [if_neg c4, if_neg (fun hh => hh.2 ⟨by omega, by omega⟩)]
                · rw [if_neg c2, if_neg (fun hh => c2 hh.1.2)]
              · rw [if_neg c1, if_neg (fun hh => c1 hh.1.1)]
    · refine Ev.step (fun k => ?_) he
      rw [colophonlaw11_CmapSends.l0]
      by_cases b1 : (i : Int) < (gaps.length : Int)
      · rw [if_pos b1]
        by_cases b2 : (i : Int) < (longs.length : Int)
        · rw [if_pos b2, if_neg (fun b3 => a1 ⟨b1, b2, b3⟩)]
        · rw [if_neg b2]
      · rw [if_neg b1]
/-- What is found in what was read of a table of groups is what the groups send there. -/
theorem CmapSends : ∀ (gaps longs glyphs : List Int) (c : Int), (Lit.int .i64 c).wf = true → gaps.length ≤ 17592186043904 → ∃ k, colophonlaw11_CmapSends.f k gaps longs glyphs c = some true := by
  intro gaps longs glyphs c hc hg
  refine Ev.rounds (r := true) ?_
  exact sends_l0 gaps longs glyphs c (wf_in hc) hg 60 0 [] rfl rfl trivial (by omega)

end Go.Proofs.Ytldcgkkbmnahiaa.Pure
