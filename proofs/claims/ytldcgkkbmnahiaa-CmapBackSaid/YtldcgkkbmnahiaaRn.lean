/- Both tables are read back as the list that they were built of. -/
import Derived.Test.YtldcgkkbmnahiaaRm
namespace Go.Proofs.Ytldcgkkbmnahiaa.Px
set_option linter.unusedSimpArgs false
set_option linter.unusedVariables false
open Go.RowKit Go.Proofs.YtldcgkkbmnahiaaW.PrintWords Go.Proofs.YtldcgkkbmnahiaaW.PrintLast Go.Proofs.YtldcgkkbmnahiaaW.PrintMore

def head16 (n : Int) : List Int := p4 786432 ++ (p4 (16 + 12 * n) ++ (p4 0 ++ p4 n))
theorem headW_eq (n : Int) (R : List Int) : headW n ++ R = [0, 0, 0, 1, 0, 3, 0, 10, 0, 0, 0, 12] ++ (head16 n ++ R) := by
  simp [headW, head16, p2, p4]
theorem row12_len (x : S47) : (row12 x).length = 12 := rfl
theorem wide_rows {l : List S47} (h : goodS l 4096 = true) (j : Nat) (hj : j < l.length) :
    gA (strOfNums (head16 l.length ++ l.flatMap row12)) j = l[j].f0 ∧ gB (strOfNums (head16 l.length ++ l.flatMap row12)) j = l[j].f1 ∧ gG (strOfNums (head16 l.length ++ l.flatMap row12)) j = l[j].f2 := by
  have bd := (good_at h j hj).1
  have hget : ∀ q, q < 12 → (head16 (l.length : Int) ++ l.flatMap row12)[16 + 12 * j + q]? = (row12 l[j])[q]? := by
    intro q hq
    rw [List.getElem?_append_right (by show 16 ≤ _; omega)]
    rw [show 16 + 12 * j + q - (head16 (l.length : Int)).length = 12 * j + q from by show 16 + 12 * j + q - 16 = _; omega]
    exact flat_get row12 12 row12_len l j q hj hq
  refine ⟨?_, ?_, ?_⟩
  · unfold gA
    have := son_fo (head16 (l.length : Int) ++ l.flatMap row12) (16 + 12 * j) l[j].f0 (by omega) (fun q hq => by rw [hget q (by omega)]; match q, hq with | 0, _ => rfl | 1, _ => rfl | 2, _ => rfl | 3, _ => rfl)
    rw [show (16 : Int) + 12 * (j : Int) = ((16 + 12 * j : Nat) : Int) from by omega, this]
    omega
  · unfold gB
    have := son_fo (head16 (l.length : Int) ++ l.flatMap row12) (16 + 12 * j + 4) l[j].f1 (by omega) (fun q hq => by rw [show 16 + 12 * j + 4 + q = 16 + 12 * j + (4 + q) from by omega, hget (4 + q) (by omega)]; match q, hq with | 0, _ => rfl | 1, _ => rfl | 2, _ => rfl | 3, _ => rfl)
    rw [show (16 : Int) + 12 * (j : Int) + 4 = ((16 + 12 * j + 4 : Nat) : Int) from by omega, this]
    omega
  · unfold gG
    have := son_fo (head16 (l.length : Int) ++ l.flatMap row12) (16 + 12 * j + 8) l[j].f2 (by omega) (fun q hq => by rw [show 16 + 12 * j + 8 + q = 16 + 12 * j + (8 + q) from by omega, hget (8 + q) (by omega)]; match q, hq with | 0, _ => rfl | 1, _ => rfl | 2, _ => rfl | 3, _ => rfl)
    rw [show (16 : Int) + 12 * (j : Int) + 8 = ((16 + 12 * j + 8 : Nat) : Int) from by omega, this]
    omega
theorem wide_groups {l : List S47} (h : goodS l 4096 = true) (hl : l.length ≤ 4096) : groupsS (strOfNums (head16 l.length ++ l.flatMap row12)) 4096 [] = (true, l) := by
  have hz : (strOfNums (head16 l.length ++ l.flatMap row12)).size = 16 + 12 * l.length := by
    rw [son_size, List.length_append, flat_len row12 12 row12_len]; rfl
  have f0 : fo (strOfNums (head16 l.length ++ l.flatMap row12)) 0 = 786432 := by
    have := son_fo (head16 (l.length : Int) ++ l.flatMap row12) 0 786432 (by omega) (fun q hq => by match q, hq with | 0, _ => rfl | 1, _ => rfl | 2, _ => rfl | 3, _ => rfl)
    exact this
  have f4 : fo (strOfNums (head16 l.length ++ l.flatMap row12)) 4 = 16 + 12 * (l.length : Int) := by
    have := son_fo (head16 (l.length : Int) ++ l.flatMap row12) 4 (16 + 12 * (l.length : Int)) (by omega) (fun q hq => by match q, hq with | 0, _ => rfl | 1, _ => rfl | 2, _ => rfl | 3, _ => rfl)
    have e : fo (strOfNums (head16 l.length ++ l.flatMap row12)) 4 = (16 + 12 * (l.length : Int)) % 4294967296 := this
    rw [e]; omega
  have f12 : fo (strOfNums (head16 l.length ++ l.flatMap row12)) 12 = (l.length : Int) := by
    have := son_fo (head16 (l.length : Int) ++ l.flatMap row12) 12 (l.length : Int) (by omega) (fun q hq => by match q, hq with | 0, _ => rfl | 1, _ => rfl | 2, _ => rfl | 3, _ => rfl)
    have e : fo (strOfNums (head16 l.length ++ l.flatMap row12)) 12 = (l.length : Int) % 4294967296 := this
    rw [e]; omega
  unfold groupsS
  rw [hz, f0, f4, f12, if_neg (by omega), if_neg (by simp), if_neg (by omega), if_neg (by simp), if_neg (by omega)]
  rw [show ((l.length : Int)).toNat = l.length from rfl]
  have hrow := fun j hj => wide_rows h j hj
  rw [groupsL_ok _ _ _ _ (by have := rows_back h hrow l.length 0 (-1) (by omega) (fun _ => rfl) (fun h0 => absurd h0 (by omega)); exact this)]
  have := runs_back h hrow l.length 0 (by omega)
  rw [List.take_zero] at this
  exact congrArg (Prod.mk true) this
/-- the wide table is read as the list that it was built of -/
theorem wide_back {l : List S47} (h : goodS l 4096 = true) (hl : l.length ≤ 4096) : readS (strOfNums (headW l.length ++ l.flatMap row12)) 4096 = (l, 0) := by
  rw [headW_eq]
  have hz : (strOfNums ([0, 0, 0, 1, 0, 3, 0, 10, 0, 0, 0, 12] ++ (head16 l.length ++ l.flatMap row12))).size = 28 + 12 * l.length := by
    rw [son_size, List.length_append, List.length_append, flat_len row12 12 row12_len]
    show 12 + (16 + 12 * l.length) = _
    omega
  have t0 : tw (strOfNums ([0, 0, 0, 1, 0, 3, 0, 10, 0, 0, 0, 12] ++ (head16 l.length ++ l.flatMap row12))) 0 = 0 := son_tw _ 0 0 (by omega) rfl rfl
  have t2 : tw (strOfNums ([0, 0, 0, 1, 0, 3, 0, 10, 0, 0, 0, 12] ++ (head16 l.length ++ l.flatMap row12))) 2 = 1 := son_tw _ 2 1 (by omega) rfl rfl
  have t4 : tw (strOfNums ([0, 0, 0, 1, 0, 3, 0, 10, 0, 0, 0, 12] ++ (head16 l.length ++ l.flatMap row12))) 4 = 3 := son_tw _ 4 3 (by omega) rfl rfl
  have t6 : tw (strOfNums ([0, 0, 0, 1, 0, 3, 0, 10, 0, 0, 0, 12] ++ (head16 l.length ++ l.flatMap row12))) 6 = 10 := son_tw _ 6 10 (by omega) rfl rfl
  have f8 : fo (strOfNums ([0, 0, 0, 1, 0, 3, 0, 10, 0, 0, 0, 12] ++ (head16 l.length ++ l.flatMap row12))) 8 = 12 := son_fo _ 8 12 (by omega) (fun q hq => by match q, hq with | 0, _ => rfl | 1, _ => rfl | 2, _ => rfl | 3, _ => rfl)
  have hd := son_drop ([0, 0, 0, 1, 0, 3, 0, 10, 0, 0, 0, 12] ++ (head16 l.length ++ l.flatMap row12)) 12
  have hd2 : List.drop 12 (([0, 0, 0, 1, 0, 3, 0, 10, 0, 0, 0, 12] : List Int) ++ (head16 (l.length : Int) ++ l.flatMap row12)) = head16 (l.length : Int) ++ l.flatMap row12 := rfl
  rw [hd2] at hd
  generalize strOfNums ([0, 0, 0, 1, 0, 3, 0, 10, 0, 0, 0, 12] ++ (head16 (l.length : Int) ++ l.flatMap row12)) = T at *
  have hc : countS T = (12, true, true) := by
    unfold countS
    rw [if_neg (by omega), t0, if_neg (by simp), t2, if_neg (by omega)]
    rw [show (1 : Int).toNat = 0 + 1 from rfl, countL_W (Int.le_refl _) (by unfold isW mP mE; rw [show (4 : Int) + 8 * 0 = 4 from rfl, show (6 : Int) + 8 * 0 = 6 from rfl, t4, t6]; rfl)]
    unfold mA
    rw [show (8 : Int) + 8 * 0 = 8 from rfl, f8]
  unfold readS
  rw [if_neg (by decide), if_neg (by decide), hc]
  unfold endS
  rw [if_neg (show ¬ ((12, true, true) : Int × Bool × Bool).2.2 = false from Bool.noConfusion), if_neg (show ¬ (T.size : Int) - 4 < ((12, true, true) : Int × Bool × Bool).1 from by show ¬ (T.size : Int) - 4 < 12; omega)]
  have hm : mapS T 4096 12 true = (true, l) := by
    unfold mapS
    rw [if_pos rfl, show (12 : Int).toNat = 12 from rfl, hd]
    exact wide_groups h hl
  show doneS (mapS T 4096 12 true) = _
  rw [hm]
  unfold doneS
  rw [if_pos ⟨rfl, hl⟩]
theorem son_tw' (xs : List Int) (n : Nat) (v : Int) (h0 : xs[n]? = some (v / 256 % 256)) (h1 : xs[n + 1]? = some (v % 256)) : tw (strOfNums xs) (n : Int) = v % 65536 := by
  obtain ⟨l0, e0⟩ := List.getElem?_eq_some_iff.1 h0
  obtain ⟨l1, e1⟩ := List.getElem?_eq_some_iff.1 h1
  unfold tw
  rw [son_bt xs n l0 (by rw [e0]; omega) (by rw [e0]; omega), show (n : Int) + 1 = ((n + 1 : Nat) : Int) from by omega, son_bt xs (n + 1) l1 (by rw [e1]; omega) (by rw [e1]; omega), e0, e1]
  omega
def head14 (m p q : Int) : List Int := [4, 16 + 8 * m, 0, 2 * m, 2 * p, q, 2 * m - 2 * p].flatMap p2
/-- the narrow map's bytes -/
def mapN (all : List S47) (m p q : Int) : List Int := head14 m p q ++ (all.flatMap colL ++ (p2 0 ++ (all.flatMap colF ++ (all.flatMap colD ++ List.replicate (2 * m).toNat 0))))
theorem bytesN_eq (all : List S47) (m p q : Int) : bytesN all m p q = [0, 0, 0, 1, 0, 3, 0, 1, 0, 0, 0, 12] ++ mapN all m p q := by
  simp [bytesN, mapN, head14, p2, p4]
theorem head14_len (m p q : Int) : (head14 m p q).length = 14 := by simp [head14, p2]
theorem mapN_L (all : List S47) (m p q : Int) (i j : Nat) (hi : i < all.length) (hj : j < 2) : (mapN all m p q)[14 + 2 * i + j]? = (colL all[i])[j]? := by
  have hL := flat_len colL 2 (fun _ => rfl) all
  unfold mapN
  rw [List.getElem?_append_right (by rw [head14_len]; omega), head14_len, List.getElem?_append_left (by rw [hL]; omega), show 14 + 2 * i + j - 14 = 2 * i + j from by omega]
  exact flat_get colL 2 (fun _ => rfl) all i j hi hj
theorem mapN_F (all : List S47) (m p q : Int) (i j : Nat) (hi : i < all.length) (hj : j < 2) : (mapN all m p q)[16 + 2 * all.length + 2 * i + j]? = (colF all[i])[j]? := by
  have hL := flat_len colL 2 (fun _ => rfl) all
  have hF := flat_len colF 2 (fun _ => rfl) all
  have h2 : (p2 0).length = 2 := rfl
  unfold mapN
  rw [List.getElem?_append_right (by rw [head14_len]; omega), head14_len, List.getElem?_append_right (by rw [hL]; omega), hL, List.getElem?_append_right (by rw [h2]; omega), h2, List.getElem?_append_left (by rw [hF]; omega), show 16 + 2 * all.length + 2 * i + j - 14 - 2 * all.length - 2 = 2 * i + j from by omega]
  exact flat_get colF 2 (fun _ => rfl) all i j hi hj
theorem mapN_D (all : List S47) (m p q : Int) (i j : Nat) (hi : i < all.length) (hj : j < 2) : (mapN all m p q)[16 + 4 * all.length + 2 * i + j]? = (colD all[i])[j]? := by
  have hL := flat_len colL 2 (fun _ => rfl) all
  have hF := flat_len colF 2 (fun _ => rfl) all
  have hD := flat_len colD 2 (fun _ => rfl) all
  have h2 : (p2 0).length = 2 := rfl
  unfold mapN
  rw [List.getElem?_append_right (by rw [head14_len]; omega), head14_len, List.getElem?_append_right (by rw [hL]; omega), hL, List.getElem?_append_right (by rw [h2]; omega), h2, List.getElem?_append_right (by rw [hF]; omega), hF, List.getElem?_append_left (by rw [hD]; omega), show 16 + 4 * all.length + 2 * i + j - 14 - 2 * all.length - 2 - 2 * all.length = 2 * i + j from by omega]
  exact flat_get colD 2 (fun _ => rfl) all i j hi hj
theorem mapN_O (all : List S47) (m p q : Int) (hm : m = all.length) (i j : Nat) (hi : i < all.length) (hj : j < 2) : (mapN all m p q)[16 + 6 * all.length + 2 * i + j]? = some 0 := by
  have hL := flat_len colL 2 (fun _ => rfl) all
  have hF := flat_len colF 2 (fun _ => rfl) all
  have hD := flat_len colD 2 (fun _ => rfl) all
  have h2 : (p2 0).length = 2 := rfl
  unfold mapN
  rw [List.getElem?_append_right (by rw [head14_len]; omega), head14_len, List.getElem?_append_right (by rw [hL]; omega), hL, List.getElem?_append_right (by rw [h2]; omega), h2, List.getElem?_append_right (by rw [hF]; omega), hF, List.getElem?_append_right (by rw [hD]; omega), hD, List.getElem?_replicate, if_pos (by omega)]
theorem mapN_len (all : List S47) (m p q : Int) (hm : m = all.length) : (mapN all m p q).length = 16 + 8 * all.length := by
  have hL := flat_len colL 2 (fun _ => rfl) all
  have hF := flat_len colF 2 (fun _ => rfl) all
  have hD := flat_len colD 2 (fun _ => rfl) all
  have h2 : (p2 0).length = 2 := rfl
  unfold mapN
  rw [List.length_append, List.length_append, List.length_append, List.length_append, List.length_append, head14_len, hL, h2, hF, hD, List.length_replicate]
  omega
theorem N_cols (all : List S47) (m p q : Int) (hm : m = all.length) (i : Nat) (hi : i < all.length) :
    sL (strOfNums (mapN all m p q)) (2 * i) = all[i].f1 % 65536 ∧ sF (strOfNums (mapN all m p q)) (2 * m) (2 * i) = all[i].f0 % 65536 ∧
    sD (strOfNums (mapN all m p q)) (2 * m) (2 * i) = (all[i].f2 - all[i].f0) % 65536 ∧ sO (strOfNums (mapN all m p q)) (2 * m) (2 * i) = 0 := by
  subst hm
  refine ⟨?_, ?_, ?_, ?_⟩
  · have := son_tw' (mapN all all.length p q) (14 + 2 * i) all[i].f1 (mapN_L all _ p q i 0 hi (by omega)) (mapN_L all _ p q i 1 hi (by omega))
    unfold sL
    rw [show (14 : Int) + 2 * (i : Int) = ((14 + 2 * i : Nat) : Int) from by omega]; exact this
  · have := son_tw' (mapN all all.length p q) (16 + 2 * all.length + 2 * i) all[i].f0 (mapN_F all _ p q i 0 hi (by omega)) (mapN_F all _ p q i 1 hi (by omega))
    unfold sF
    rw [show (16 : Int) + 2 * (all.length : Int) + 2 * (i : Int) = ((16 + 2 * all.length + 2 * i : Nat) : Int) from by omega]; exact this
  · have := son_tw' (mapN all all.length p q) (16 + 4 * all.length + 2 * i) (all[i].f2 - all[i].f0) (mapN_D all _ p q i 0 hi (by omega)) (mapN_D all _ p q i 1 hi (by omega))
    unfold sD
    rw [show (16 : Int) + 2 * (2 * (all.length : Int)) + 2 * (i : Int) = ((16 + 4 * all.length + 2 * i : Nat) : Int) from by omega]; exact this
  · have := son_tw' (mapN all all.length p q) (16 + 6 * all.length + 2 * i) 0 (mapN_O all _ p q rfl i 0 hi (by omega)) (mapN_O all _ p q rfl i 1 hi (by omega))
    unfold sO sP
    rw [show (16 : Int) + 3 * (2 * (all.length : Int)) + 2 * (i : Int) = ((16 + 6 * all.length + 2 * i : Nat) : Int) from by omega]; exact this
/-- a span's codes, taken one by one -/
theorem segRun_run (t : ByteArray) (n d fr dl pl : Int) : ∀ (k : Nat) (c g : Int) (xs : List S47), (∀ j : Int, c ≤ j → j < c + k → ¬ (55296 ≤ j ∧ j ≤ 57343) ∧ (j + dl) % 65536 = g + (j - c) ∧ g + (j - c) < n) → segRun t n d fr dl pl 0 k c xs = (true, takeRun xs c g k) := by
  intro k
  induction k with
  | zero => intro c g xs _; rfl
  | succ k ih =>
    intro c g xs h
    obtain ⟨h1, h2, h3⟩ := h c (Int.le_refl _) (by omega)
    have hg : segG t d fr dl pl 0 c = some g := by unfold segG; rw [if_pos rfl, h2]; congr 1; omega
    rw [segRun_take h1 hg (by omega), takeRun_head]
    exact ih (c + 1) (g + 1) _ (fun j a b => by obtain ⟨x, y, z⟩ := h j (by omega) (by omega); exact ⟨x, by omega, by omega⟩)
/-- the rows of the narrow table are the list's -/
theorem narrow_runs {l : List S47} (h : goodS l 4096 = true) (hfit : ∀ (j : Nat) (hj : j < l.length), l[j].f1 ≤ 65534) (p q d : Int) : ∀ (r i : Nat), i + r = l.length →
    runsS (strOfNums (mapN (l ++ [endRow]) (l.length + 1) p q)) 4096 d (2 * (l.length + 1)) (r + 1) (2 * i) (l.take i) = some l := by
  have hlen : (l ++ [endRow]).length = l.length + 1 := by simp
  intro r
  induction r with
  | zero =>
    intro i hi
    obtain ⟨a, b, c, e⟩ := N_cols (l ++ [endRow]) (l.length + 1) p q (by omega) i (by omega)
    have he : (l ++ [endRow])[i]'(by omega) = endRow := by rw [List.getElem_append_right (by omega)]; simp
    rw [he] at a b c
    have a' : sL (strOfNums (mapN (l ++ [endRow]) (l.length + 1) p q)) (2 * i) = 65535 := a
    have b' : sF (strOfNums (mapN (l ++ [endRow]) (l.length + 1) p q)) (2 * (l.length + 1)) (2 * i) = 65535 := b
    simp only [runsS]
    rw [a', b', show (segE 65535 - 65535).toNat = 0 from by decide]
    simp only [segRun, if_true]
    rw [List.take_of_length_le (by omega)]
  | succ r ih =>
    intro i hi
    obtain ⟨a, b, c, e⟩ := N_cols (l ++ [endRow]) (l.length + 1) p q (by omega) i (by omega)
    have he : (l ++ [endRow])[i]'(by omega) = l[i]'(by omega) := List.getElem_append_left (by omega)
    rw [he] at a b c
    have bd := (good_at h i (by omega)).1
    have hf := hfit i (by omega)
    have a' : sL (strOfNums (mapN (l ++ [endRow]) (l.length + 1) p q)) (2 * i) = l[i].f1 := by rw [a]; omega
    have b' : sF (strOfNums (mapN (l ++ [endRow]) (l.length + 1) p q)) (2 * (l.length + 1)) (2 * i) = l[i].f0 := by rw [b]; omega
    obtain ⟨m, hm⟩ : ∃ m : Nat, (segE l[i].f1 - l[i].f0).toNat = m + 1 := ⟨(l[i].f1 - l[i].f0).toNat, by unfold segE; rw [if_pos (by omega)]; omega⟩
    have hm2 : l[i].f0 + (m : Int) = l[i].f1 := by unfold segE at hm; rw [if_pos (by omega)] at hm; omega
    have hrun := segRun_run (strOfNums (mapN (l ++ [endRow]) (l.length + 1) p q)) 4096 d l[i].f0 ((l[i].f2 - l[i].f0) % 65536) (sP (2 * (l.length + 1)) (2 * i)) (m + 1) l[i].f0 l[i].f2 (l.take i) (fun j h0 h1 => ⟨by omega, by omega, by omega⟩)
    rw [run_new _ _ _ bd.1 bd.2.2.2.2.1 (by omega) (take_new h i (by omega)) m (by omega) (fun j h0 h1 => by omega) (by omega), hm2] at hrun
    have ee : l.take i ++ [(⟨l[i].f0, l[i].f1, l[i].f2⟩ : S47)] = l.take (i + 1) := by
      rw [List.take_succ_eq_append_getElem (by omega)]
    rw [ee] at hrun
    have hs : runsS (strOfNums (mapN (l ++ [endRow]) (l.length + 1) p q)) 4096 d (2 * (l.length + 1)) (r + 1 + 1) (2 * i) (l.take i) = runsS (strOfNums (mapN (l ++ [endRow]) (l.length + 1) p q)) 4096 d (2 * (l.length + 1)) (r + 1) (2 * i + 2) (l.take (i + 1)) := by
      rw [runsS, a', b', c, e, hm, hrun, if_pos rfl]
    rw [hs, show (2 : Int) * (i : Int) + 2 = 2 * ((i + 1 : Nat) : Int) from by omega]
    exact ih (i + 1) (by omega)
theorem narrow_rows {l : List S47} (h : goodS l 4096 = true) (hfit : ∀ (j : Nat) (hj : j < l.length), l[j].f1 ≤ 65534) (p q : Int) : ∀ (r i : Nat) (before : Int), i + r = l.length → (i = 0 → before = -1) → (∀ h0 : 0 < i, ∀ h1 : i - 1 < l.length, before = l[i - 1].f1) →
    rowsS (strOfNums (mapN (l ++ [endRow]) (l.length + 1) p q)) (2 * (l.length + 1)) (r + 1) (2 * i) before := by
  intro r
  induction r with
  | zero =>
    intro i before hi h0 h1
    obtain ⟨a, b, _, _⟩ := N_cols (l ++ [endRow]) (l.length + 1) p q (by simp) i (by simp; omega)
    have he : (l ++ [endRow])[i]'(by simp; omega) = endRow := by rw [List.getElem_append_right (by omega)]; simp
    rw [he] at a b
    have a' : sL (strOfNums (mapN (l ++ [endRow]) (l.length + 1) p q)) (2 * i) = 65535 := a
    have b' : sF (strOfNums (mapN (l ++ [endRow]) (l.length + 1) p q)) (2 * (l.length + 1)) (2 * i) = 65535 := b
    refine ⟨?_, ?_⟩
    · rw [a', b']
      by_cases hz : i = 0
      · have := h0 hz; omega
      · have := h1 (by omega) (by omega); have := hfit (i - 1) (by omega); omega
    · exact a'
  | succ r ih =>
    intro i before hi h0 h1
    obtain ⟨a, b, _, _⟩ := N_cols (l ++ [endRow]) (l.length + 1) p q (by simp) i (by simp; omega)
    have he : (l ++ [endRow])[i]'(by simp; omega) = l[i]'(by omega) := List.getElem_append_left (by omega)
    rw [he] at a b
    obtain ⟨bd, c⟩ := good_at h i (by omega)
    have hf := hfit i (by omega)
    have a' : sL (strOfNums (mapN (l ++ [endRow]) (l.length + 1) p q)) (2 * i) = l[i].f1 := by rw [a]; omega
    have b' : sF (strOfNums (mapN (l ++ [endRow]) (l.length + 1) p q)) (2 * (l.length + 1)) (2 * i) = l[i].f0 := by rw [b]; omega
    refine ⟨?_, ?_⟩
    · rw [a', b']
      by_cases hz : i = 0
      · have := h0 hz; omega
      · have := h1 (by omega) (by omega); have := (c (by omega)).1; omega
    · rw [a', show (2 : Int) * (i : Int) + 2 = 2 * ((i + 1 : Nat) : Int) from by omega]
      exact ih (i + 1) _ (by omega) (fun hh => by omega) (fun _ _ => rfl)
theorem narrow_segs {l : List S47} (h : goodS l 4096 = true) (hl : l.length ≤ 4095) (hfit : ∀ (j : Nat) (hj : j < l.length), l[j].f1 ≤ 65534) (p q : Int) : segsS (strOfNums (mapN (l ++ [endRow]) (l.length + 1) p q)) 4096 [] = (true, l) := by
  have hz : (strOfNums (mapN (l ++ [endRow]) (l.length + 1) p q)).size = 16 + 8 * (l.length + 1) := by
    rw [son_size, mapN_len _ _ _ _ (by simp)]; simp
  have t0 : tw (strOfNums (mapN (l ++ [endRow]) (l.length + 1) p q)) 0 = 4 := son_tw' _ 0 4 rfl rfl
  have t2 : tw (strOfNums (mapN (l ++ [endRow]) (l.length + 1) p q)) 2 = 16 + 8 * ((l.length : Int) + 1) := by
    have : tw (strOfNums (mapN (l ++ [endRow]) (l.length + 1) p q)) 2 = (16 + 8 * ((l.length : Int) + 1)) % 65536 := son_tw' _ 2 _ rfl rfl
    rw [this]; omega
  have t6 : tw (strOfNums (mapN (l ++ [endRow]) (l.length + 1) p q)) 6 = 2 * ((l.length : Int) + 1) := by
    have : tw (strOfNums (mapN (l ++ [endRow]) (l.length + 1) p q)) 6 = (2 * ((l.length : Int) + 1)) % 65536 := son_tw' _ 6 _ rfl rfl
    rw [this]; omega
  unfold segsS
  rw [hz, t0, t2, t6, if_neg (by omega), if_neg (by simp), if_neg (by omega), if_neg (by omega), if_neg (by omega), if_neg (by omega)]
  rw [show (2 * ((l.length : Int) + 1) / 2).toNat = l.length + 1 from by omega]
  have hr := narrow_rows h hfit p q l.length 0 (-1) (by omega) (fun _ => rfl) (fun h0 => absurd h0 (by omega))
  have hs := narrow_runs h hfit p q (16 + 8 * ((l.length : Int) + 1)) l.length 0 (by omega)
  rw [List.take_zero] at hs
  exact segsL_ok _ _ _ _ _ hr hs
/-- the narrow table is read as the list that it was built of -/
theorem narrow_back {l : List S47} (h : goodS l 4096 = true) (hl : l.length ≤ 4095) (hfit : ∀ (j : Nat) (hj : j < l.length), l[j].f1 ≤ 65534) (p q : Int) : readS (strOfNums (bytesN (l ++ [endRow]) (l.length + 1) p q)) 4096 = (l, 0) := by
  rw [bytesN_eq]
  have hz : (strOfNums ([0, 0, 0, 1, 0, 3, 0, 1, 0, 0, 0, 12] ++ mapN (l ++ [endRow]) (l.length + 1) p q)).size = 28 + 8 * (l.length + 1) := by
    rw [son_size, List.length_append, mapN_len _ _ _ _ (by simp)]
    show 12 + _ = _
    simp; omega
  have t0 : tw (strOfNums ([0, 0, 0, 1, 0, 3, 0, 1, 0, 0, 0, 12] ++ mapN (l ++ [endRow]) (l.length + 1) p q)) 0 = 0 := son_tw _ 0 0 (by omega) rfl rfl
  have t2 : tw (strOfNums ([0, 0, 0, 1, 0, 3, 0, 1, 0, 0, 0, 12] ++ mapN (l ++ [endRow]) (l.length + 1) p q)) 2 = 1 := son_tw _ 2 1 (by omega) rfl rfl
  have t4 : tw (strOfNums ([0, 0, 0, 1, 0, 3, 0, 1, 0, 0, 0, 12] ++ mapN (l ++ [endRow]) (l.length + 1) p q)) 4 = 3 := son_tw _ 4 3 (by omega) rfl rfl
  have t6 : tw (strOfNums ([0, 0, 0, 1, 0, 3, 0, 1, 0, 0, 0, 12] ++ mapN (l ++ [endRow]) (l.length + 1) p q)) 6 = 1 := son_tw _ 6 1 (by omega) rfl rfl
  have f8 : fo (strOfNums ([0, 0, 0, 1, 0, 3, 0, 1, 0, 0, 0, 12] ++ mapN (l ++ [endRow]) (l.length + 1) p q)) 8 = 12 := son_fo _ 8 12 (by omega) (fun q hq => by match q, hq with | 0, _ => rfl | 1, _ => rfl | 2, _ => rfl | 3, _ => rfl)
  have hd := son_drop ([0, 0, 0, 1, 0, 3, 0, 1, 0, 0, 0, 12] ++ mapN (l ++ [endRow]) (l.length + 1) p q) 12
  have hd2 : List.drop 12 (([0, 0, 0, 1, 0, 3, 0, 1, 0, 0, 0, 12] : List Int) ++ mapN (l ++ [endRow]) (l.length + 1) p q) = mapN (l ++ [endRow]) (l.length + 1) p q := rfl
  rw [hd2] at hd
  generalize strOfNums ([0, 0, 0, 1, 0, 3, 0, 1, 0, 0, 0, 12] ++ mapN (l ++ [endRow]) (l.length + 1) p q) = T at *
  have hW : isW T 0 = false := by unfold isW mP mE; rw [show (4 : Int) + 8 * 0 = 4 from rfl, show (6 : Int) + 8 * 0 = 6 from rfl, t4, t6]; rfl
  have hN : isN T 0 = true := by unfold isN mP mE; rw [show (4 : Int) + 8 * 0 = 4 from rfl, show (6 : Int) + 8 * 0 = 6 from rfl, t4, t6]; rfl
  have hc : countS T = (12, false, true) := by
    unfold countS
    rw [if_neg (by omega), t0, if_neg (by simp), t2, if_neg (by omega)]
    rw [show (1 : Int).toNat = 0 + 1 from rfl, countL_N (Int.le_refl _) hW hN]
    unfold countL mA
    rw [show (8 : Int) + 8 * 0 = 8 from rfl, f8]
    rfl
  unfold readS
  rw [if_neg (by decide), if_neg (by decide), hc]
  unfold endS
  rw [if_neg (show ¬ ((12, false, true) : Int × Bool × Bool).2.2 = false from Bool.noConfusion), if_neg (show ¬ (T.size : Int) - 4 < ((12, false, true) : Int × Bool × Bool).1 from by show ¬ (T.size : Int) - 4 < 12; omega)]
  have hm : mapS T 4096 12 false = (true, l) := by
    unfold mapS
    rw [if_neg (by decide), show (12 : Int).toNat = 12 from rfl, hd]
    exact narrow_segs h hl hfit p q
  show doneS (mapS T 4096 12 false) = _
  rw [hm]
  unfold doneS
  rw [if_pos ⟨rfl, show l.length ≤ 4096 from by omega⟩]

end Go.Proofs.Ytldcgkkbmnahiaa.Px
