/- What Build writes, and lemmas on bytes. -/
import Derived.Test.YtldcgkkbmnahiaaSa
import Derived.Test.YtldcgkkbmnahiaaPxx6
namespace Go.Proofs.Ytldcgkkbmnahiaa.Px
set_option linter.unusedSimpArgs false
set_option linter.unusedVariables false
open Go.RowKit Go.Proofs.YtldcgkkbmnahiaaW.PrintWords Go.Proofs.YtldcgkkbmnahiaaW.PrintLast Go.Proofs.YtldcgkkbmnahiaaW.PrintMore

/-- a number's two bytes, its four bytes -/
def p2 (v : Int) : List Int := [v / 256 % 256, v % 256]
def p4 (v : Int) : List Int := p2 (v / 65536) ++ p2 v
theorem rdd {xs : List Int} {n : Nat} (h : n < xs.length) : rd xs (n : Int) = xs[n] := by
  unfold rd
  rw [show ((n : Nat) : Int).toNat = n from rfl, List.getD_eq_getElem?_getD, List.getElem?_eq_getElem h]
  rfl
theorem dropc {α : Type} {l t : List α} {x : α} {n : Nat} (h : l.drop n = x :: t) : ∃ hn : n < l.length, l[n] = x ∧ l.drop (n + 1) = t := by
  have hn : n < l.length := by
    by_cases hh : n < l.length
    · exact hh
    · rw [List.drop_eq_nil_of_le (by omega)] at h; exact absurd h (by simp)
  rw [List.drop_eq_getElem_cons hn] at h
  injection h with h1 h2
  exact ⟨hn, h1, h2⟩
theorem dropn {α : Type} {l : List α} {n : Nat} (h : l.drop n = []) : l.length ≤ n := by
  have := congrArg List.length h
  simp at this; omega
theorem put_l0 (l : List Int) (hl : l.length ≤ 1000000) : ∀ (t : List Int) (n : Nat) (xs : List Int), l.drop n = t → n ≤ l.length → xs.length + 2 * t.length < 140737488355328 → Ev (fun k => cmap_put.l0 k xs l (l.length : Int) n) (xs ++ t.flatMap p2) := by
  intro t
  induction t with
  | nil =>
    intro n xs h hn _
    have := dropn h
    refine Ev.step (f := fun _ => some xs) (fun k => ?_) (by simpa using Ev.now _)
    rw [cmap_put.l0, if_neg (by omega)]
  | cons v t ih =>
    intro n xs h hn hx
    obtain ⟨hn2, hv, ht⟩ := dropc h
    simp only [List.length_cons] at hx
    have h2 := ih (n + 1) (xs ++ p2 v) ht (by omega) (by simp [p2]; omega)
    refine Ev.step (f := fun k => cmap_put.l0 k (xs ++ p2 v) l (l.length : Int) ((n + 1 : Nat) : Int)) (fun k => ?_) (by simpa [List.flatMap_cons, List.append_assoc] using h2)
    rw [cmap_put.l0, if_pos (by omega), if_pos (by omega), if_pos (by omega), rdd hn2, hv]
    simp only [Option.bind_some]
    rw [if_pos (by simp; omega), wrap64_small (by omega) (by omega)]
    rfl
theorem put_ev (xs vs : List Int) (hv : vs.length ≤ 1000000) (hx : xs.length + 2 * vs.length < 140737488355328) : Ev (fun k => cmap_put.f k xs vs) (xs ++ vs.flatMap p2) := put_l0 vs hv vs 0 xs rfl (Nat.zero_le _) hx
theorem long_l0 (l : List Int) (hl : l.length ≤ 1000000) : ∀ (t : List Int) (n : Nat) (xs : List Int), l.drop n = t → n ≤ l.length → xs.length + 4 * t.length < 140737488355328 → Ev (fun k => cmap_long.l0 k xs l (l.length : Int) n) (xs ++ t.flatMap p4) := by
  intro t
  induction t with
  | nil =>
    intro n xs h hn _
    have := dropn h
    refine Ev.step (f := fun _ => some xs) (fun k => ?_) (by simpa using Ev.now _)
    rw [cmap_long.l0, if_neg (by omega)]
  | cons v t ih =>
    intro n xs h hn hx
    obtain ⟨hn2, hv, ht⟩ := dropc h
    simp only [List.length_cons] at hx
    have h2 := ih (n + 1) (xs ++ p4 v) ht (by omega) (by simp [p4, p2]; omega)
    have h1 := put_ev xs [v / 65536, v] (by simp) (by simp; omega)
    rw [show [v / 65536, v].flatMap p2 = p4 v from by simp [p4]] at h1
    refine Ev.step (f := fun k => (cmap_put.f k xs [v / 65536, v]).bind fun t130 => cmap_long.l0 k t130 l (l.length : Int) ((n + 1 : Nat) : Int)) (fun k => ?_) (Ev.bind h1 (by simpa [List.flatMap_cons, List.append_assoc] using h2))
    rw [cmap_long.l0, if_pos (by omega), if_pos (by omega), if_pos (by omega), rdd hn2, hv, wrap64_small (by omega) (by omega)]
    rfl
theorem long_ev (xs vs : List Int) (hv : vs.length ≤ 1000000) (hx : xs.length + 4 * vs.length < 140737488355328) : Ev (fun k => cmap_long.f k xs vs) (xs ++ vs.flatMap p4) := long_l0 vs hv vs 0 xs rfl (Nat.zero_le _) hx
theorem rd47 {xs : List S47} {n : Nat} (h : n < xs.length) : rd_T47 xs (n : Int) = xs[n] := by
  unfold rd_T47
  rw [show ((n : Nat) : Int).toNat = n from rfl, List.getD_eq_getElem?_getD, List.getElem?_eq_getElem h]
  rfl
/-- a group's row -/
def row12 (x : S47) : List Int := p4 x.f0 ++ (p4 x.f1 ++ p4 x.f2)
def headW (n : Int) : List Int := [0, 1, 3, 10].flatMap p2 ++ ([12].flatMap p4 ++ [786432, 16 + 12 * n, 0, n].flatMap p4)
theorem Build_l0 (l : List S47) (hl : l.length ≤ 1000000) : ∀ (t : List S47) (n : Nat) (xs : List Int), l.drop n = t → n ≤ l.length → xs.length + 12 * t.length < 140737488355328 → Ev (fun k => cmap_Build.l0 k xs l (l.length : Int) n) (strOfNums (xs ++ t.flatMap row12), 0) := by
  intro t
  induction t with
  | nil =>
    intro n xs h hn _
    have := dropn h
    refine Ev.step (f := fun _ => some (strOfNums xs, 0)) (fun k => ?_) (by simpa using Ev.now _)
    rw [cmap_Build.l0, if_neg (by omega)]
  | cons v t ih =>
    intro n xs h hn hx
    obtain ⟨hn2, hv, ht⟩ := dropc h
    simp only [List.length_cons] at hx
    have h2 := ih (n + 1) (xs ++ row12 v) ht (by omega) (by simp [row12, p4, p2]; omega)
    have h1 := long_ev xs [v.f0, v.f1, v.f2] (by simp) (by simp; omega)
    rw [show [v.f0, v.f1, v.f2].flatMap p4 = row12 v from by simp [row12]] at h1
    refine Ev.step (f := fun k => (cmap_long.f k xs [v.f0, v.f1, v.f2]).bind fun t157 => cmap_Build.l0 k t157 l (l.length : Int) ((n + 1 : Nat) : Int)) (fun k => ?_) (Ev.bind h1 (by simpa [List.flatMap_cons, List.append_assoc] using h2))
    rw [cmap_Build.l0, if_pos (by omega), if_pos (by omega), if_pos (by omega), rd47 hn2, hv, wrap64_small (by omega) (by omega)]
    rfl
/-- the wide table -/
theorem BuildW_ev (l : List S47) (hl : l.length ≤ 100000) : Ev (fun k => cmap_Build.f k l true) (if goodS l 4096 = true then (strOfNums (headW l.length ++ l.flatMap row12), 0) else ((⟨#[]⟩ : ByteArray), 110)) := by
  refine Ev.bind (Good_ev l 4096 hl) ?_
  cases hg : goodS l 4096 with
  | false => simp only [Bool.false_eq_true, if_false]; exact Ev.now _
  | true =>
    simp only [if_true]
    have h1 := put_ev [] [0, 1, 3, 10] (by simp) (by simp)
    refine Ev.bind h1 ?_
    refine Ev.bind (long_ev _ [12] (by simp) (by simp [p2])) ?_
    rw [wrap64_small (x := 12 * (l.length : Int)) (by omega) (by omega), wrap64_small (x := 16 + 12 * (l.length : Int)) (by omega) (by omega)]
    refine Ev.bind (long_ev _ [786432, 16 + 12 * (l.length : Int), 0, (l.length : Int)] (by simp) (by simp [p2, p4])) ?_
    have h3 := Build_l0 l (by omega) l 0 (headW l.length) rfl (Nat.zero_le _) (by simp [headW, p2, p4]; omega)
    have e : ([] ++ [0, 1, 3, 10].flatMap p2 ++ [12].flatMap p4 ++ [786432, 16 + 12 * (l.length : Int), 0, (l.length : Int)].flatMap p4) = headW l.length := by simp [headW]
    rw [e]
    exact h3
theorem son_size (xs : List Int) : (strOfNums xs).size = xs.length := by
  show (List.map _ xs).toArray.size = _
  simp
theorem son_bt (xs : List Int) (n : Nat) (h : n < xs.length) (h0 : 0 ≤ xs[n]) (h1 : xs[n] ≤ 255) : bt (strOfNums xs) (n : Int) = xs[n] := by
  have hs := son_size xs
  unfold bt
  rw [dif_pos (by rw [hs]; simpa using h)]
  show (((strOfNums xs).data[n]'_).toNat : Int) = _
  have e : (strOfNums xs).data[n]'(by rw [show (strOfNums xs).data.size = (strOfNums xs).size from rfl, hs]; exact h) = UInt8.ofNat (xs[n]).toNat := by
    simp [strOfNums]
  rw [e, UInt8.toNat_ofNat']
  omega
theorem son_drop (xs : List Int) (n : Nat) : (strOfNums xs).extract n (strOfNums xs).size = strOfNums (xs.drop n) := by
  rw [son_size]
  unfold strOfNums
  apply ByteArray.ext
  rw [ByteArray.data_extract]
  apply Array.ext'
  simp only [Array.toList_extract, List.extract_eq_take_drop, List.map_drop]
  rw [List.take_of_length_le (by simp)]
theorem flat_get {α : Type} (f : α → List Int) (w : Nat) (hf : ∀ x, (f x).length = w) : ∀ (l : List α) (i j : Nat) (hi : i < l.length), j < w → (l.flatMap f)[w * i + j]? = (f l[i])[j]? := by
  intro l
  induction l with
  | nil => intro i j hi; simp at hi
  | cons a l ih =>
    intro i j hi hj
    rw [List.flatMap_cons]
    cases i with
    | zero => rw [List.getElem?_append_left (by rw [hf]; omega)]; simp
    | succ i =>
      rw [List.getElem?_append_right (by rw [hf, Nat.mul_add]; omega), hf]
      rw [show w * (i + 1) + j - w = w * i + j from by rw [Nat.mul_add]; omega]
      simpa using ih i j (by simpa using hi) hj
theorem flat_len {α : Type} (f : α → List Int) (w : Nat) (hf : ∀ x, (f x).length = w) (l : List α) : (l.flatMap f).length = w * l.length := by
  induction l with
  | nil => simp
  | cons a l ih => rw [List.flatMap_cons, List.length_append, hf, ih, List.length_cons, Nat.mul_add]; omega
/-- two bytes at a place -/
theorem son_tw (xs : List Int) (n : Nat) (v : Int) (hv : 0 ≤ v) (h0 : xs[n]? = some (v / 256 % 256)) (h1 : xs[n + 1]? = some (v % 256)) : tw (strOfNums xs) (n : Int) = v % 65536 := by
  obtain ⟨l0, e0⟩ := List.getElem?_eq_some_iff.1 h0
  obtain ⟨l1, e1⟩ := List.getElem?_eq_some_iff.1 h1
  unfold tw
  rw [son_bt xs n l0 (by rw [e0]; omega) (by rw [e0]; omega), show (n : Int) + 1 = ((n + 1 : Nat) : Int) from by omega, son_bt xs (n + 1) l1 (by rw [e1]; omega) (by rw [e1]; omega), e0, e1]
  omega
theorem son_fo (xs : List Int) (n : Nat) (v : Int) (hv : 0 ≤ v) (h : ∀ j, j < 4 → xs[n + j]? = (p4 v)[j]?) : fo (strOfNums xs) (n : Int) = v % 4294967296 := by
  have a0 : xs[n]? = some (v / 65536 / 256 % 256) := h 0 (by omega)
  have a1 : xs[n + 1]? = some (v / 65536 % 256) := h 1 (by omega)
  have a2 : xs[n + 2]? = some (v / 256 % 256) := h 2 (by omega)
  have a3 : xs[n + 3]? = some (v % 256) := h 3 (by omega)
  unfold fo
  rw [son_tw xs n (v / 65536) (by omega) a0 a1, show (n : Int) + 2 = ((n + 2 : Nat) : Int) from by omega, son_tw xs (n + 2) v hv a2 a3]
  omega
/-- a run of codes behind what it cannot join comes to one span -/
theorem run_new (xs : List S47) (c g : Int) (hc : 0 ≤ c) (hg : 1 ≤ g) (hg2 : g ≤ 100000) (hnew : takeS xs c g = xs ++ [(⟨c, c, g⟩ : S47)]) : ∀ (m : Nat), c + m ≤ 1114111 → (∀ j : Int, c ≤ j → j ≤ c + m → ¬ (55296 ≤ j ∧ j ≤ 57343)) → g + m ≤ 100000 →
    takeRun xs c g (m + 1) = xs ++ [(⟨c, c + m, g⟩ : S47)] := by
  intro m
  induction m with
  | zero => intro _ _ _; simp only [takeRun]; simpa using hnew
  | succ m ih =>
    intro h1 h2 h3
    rw [takeRun, ih (by omega) (fun j a b => h2 j a (by omega)) (by omega)]
    have hlast : lastT (xs ++ [(⟨c, c + m, g⟩ : S47)]) = ⟨c, c + m, g⟩ := by
      unfold lastT rd_T47
      rw [List.length_append, List.length_singleton, show (((xs.length + 1 : Nat) : Int) - 1).toNat = xs.length from by omega]
      simp
    unfold takeS
    rw [if_neg (fun hh => by
      rcases hh with hh | hh
      · omega
      · exact h2 (c + ((m + 1 : Nat) : Int)) (by omega) (by omega) hh)]
    rw [if_pos, hlast]
    · rw [List.length_append, List.length_singleton, show (((xs.length + 1 : Nat) : Int) - 1).toNat = xs.length from by omega]
      simp
    · rw [hlast]
      simp only
      refine ⟨by simp, ?_, ?_⟩
      · rw [wrap64_small (by omega) (by omega)]; omega
      · rw [wrap64_small (x := g + (c + ((m + 1 : Nat) : Int))) (by omega) (by omega), wrap64_small (by omega) (by omega)]; omega
theorem goodL_at {l : List S47} {n : Int} : ∀ (r : Nat) (i : Nat), i + r = l.length → goodL l n r i = true → ∀ (j : Nat) (hj : j < l.length), i ≤ j → gBad1 l[j] = false ∧ gBad2 l[j] n = false ∧ (∀ hj0 : 0 < j, pBad (l[j - 1]'(by omega)) l[j] = false) := by
  intro r
  induction r with
  | zero => intro i h _ j hj h2; omega
  | succ r ih =>
    intro i h hg j hj h2
    simp only [goodL] at hg
    rw [rd47 (show i < l.length from by omega)] at hg
    split at hg
    · exact absurd hg (by simp)
    · rename_i g1
      split at hg
      · exact absurd hg (by simp)
      · rename_i g2
        split at hg
        · exact absurd hg (by simp)
        · rename_i g3
          by_cases e : j = i
          · subst e
            refine ⟨by simpa using g1, by simpa using g2, fun hj0 => ?_⟩
            rw [show ((j : Nat) : Int) - 1 = ((j - 1 : Nat) : Int) from by omega, rd47 (show j - 1 < l.length from by omega)] at g3
            by_cases hp : pBad (l[j - 1]'(by omega)) l[j] = true
            · exact absurd ⟨by omega, hp⟩ g3
            · simpa using hp
          · exact ih (i + 1) (by omega) (by simpa using hg) j hj (by omega)
/-- what a good list says of its spans -/
theorem good_at {l : List S47} (h : goodS l 4096 = true) (j : Nat) (hj : j < l.length) : (0 ≤ l[j].f0 ∧ l[j].f0 ≤ l[j].f1 ∧ l[j].f1 ≤ 1114111 ∧ ¬ (l[j].f0 ≤ 57343 ∧ 55296 ≤ l[j].f1) ∧ 1 ≤ l[j].f2 ∧ l[j].f1 - l[j].f0 < 4096 - l[j].f2) ∧
    (∀ hj0 : 0 < j, (l[j - 1]'(by omega)).f1 < l[j].f0 ∧ ¬ (l[j].f0 = (l[j - 1]'(by omega)).f1 + 1 ∧ l[j].f2 = (l[j - 1]'(by omega)).f2 + (l[j - 1]'(by omega)).f1 - (l[j - 1]'(by omega)).f0 + 1)) := by
  have hl : l.length ≤ 4096 := by
    unfold goodS at h
    split at h
    · exact absurd h (by simp)
    · omega
  have hg : goodL l 4096 l.length ((0 : Nat) : Int) = true := by
    unfold goodS at h
    rw [if_neg (by omega)] at h
    exact h
  have base : ∀ (i : Nat) (hi : i < l.length), 0 ≤ l[i].f0 ∧ l[i].f0 ≤ l[i].f1 ∧ l[i].f1 ≤ 1114111 ∧ ¬ (l[i].f0 ≤ 57343 ∧ 55296 ≤ l[i].f1) ∧ 1 ≤ l[i].f2 ∧ l[i].f1 - l[i].f0 < 4096 - l[i].f2 := by
    intro i hi
    obtain ⟨a, b, _⟩ := goodL_at l.length 0 (by omega) hg i hi (Nat.zero_le _)
    unfold gBad1 at a
    unfold gBad2 at b
    simp only [Bool.or_eq_false_iff, Bool.and_eq_false_iff, decide_eq_false_iff_not] at a b
    obtain ⟨a1, a2, a3, a4⟩ := a
    obtain ⟨b1, b2, b3⟩ := b
    rw [wrap64_small (x := 4096 - l[i].f2) (by omega) (by omega), wrap64_small (x := l[i].f1 - l[i].f0) (by omega) (by omega)] at b3
    refine ⟨by omega, by omega, by omega, ?_, by omega, by omega⟩
    omega
  refine ⟨base j hj, fun hj0 => ?_⟩
  obtain ⟨_, _, c⟩ := goodL_at l.length 0 (by omega) hg j hj (Nat.zero_le _)
  have hp := c hj0
  have bj := base j hj
  have bp := base (j - 1) (by omega)
  generalize hY : l[j - 1]'(by omega) = Y at *
  generalize hX : l[j] = X at *
  unfold pBad at hp
  rw [wrap64_small (x := Y.f1 + 1) (by omega) (by omega), wrap64_small (x := Y.f2 + Y.f1) (by omega) (by omega), wrap64_small (x := Y.f2 + Y.f1 - Y.f0) (by omega) (by omega), wrap64_small (x := Y.f2 + Y.f1 - Y.f0 + 1) (by omega) (by omega)] at hp
  simp only [Bool.or_eq_false_iff, Bool.and_eq_false_iff, decide_eq_false_iff_not, beq_eq_false_iff_ne] at hp
  refine ⟨by omega, fun hh => ?_⟩
  rcases hp.2 with h | h
  · exact h hh.1
  · exact h hh.2
/-- a span of a good list is taken as a new one -/
theorem take_new {l : List S47} (h : goodS l 4096 = true) (j : Nat) (hj : j < l.length) : takeS (l.take j) l[j].f0 l[j].f2 = l.take j ++ [(⟨l[j].f0, l[j].f0, l[j].f2⟩ : S47)] := by
  obtain ⟨b, c⟩ := good_at h j hj
  unfold takeS
  rw [if_neg (by omega), if_neg]
  rintro ⟨h1, h2, h3⟩
  rw [List.length_take] at h1
  have hj0 : 0 < j := by omega
  have hlast : lastT (l.take j) = l[j - 1]'(by omega) := by
    unfold lastT
    rw [List.length_take, show (((min j l.length : Nat) : Int) - 1) = ((j - 1 : Nat) : Int) from by omega, rd47 (by rw [List.length_take]; omega), List.getElem_take]
  rw [hlast] at h2 h3
  have bp := (good_at h (j - 1) (by omega)).1
  obtain ⟨c1, c2⟩ := c hj0
  rw [wrap64_small (by omega) (by omega)] at h2
  rw [wrap64_small (x := (l[j - 1]'(by omega)).f2 + l[j].f0) (by omega) (by omega), wrap64_small (by omega) (by omega)] at h3
  exact c2 ⟨by omega, by omega⟩
/-- the rows of the wide table are the list's -/
theorem runs_back {l : List S47} {t : ByteArray} (h : goodS l 4096 = true) (hrow : ∀ (j : Nat) (hj : j < l.length), gA t j = l[j].f0 ∧ gB t j = l[j].f1 ∧ gG t j = l[j].f2) : ∀ (r i : Nat), i + r = l.length → groupsRun t r i (l.take i) = l := by
  intro r
  induction r with
  | zero => intro i hi; simp only [groupsRun]; exact List.take_of_length_le (by omega)
  | succ r ih =>
    intro i hi
    obtain ⟨a, b, g⟩ := hrow i (by omega)
    have bd := (good_at h i (by omega)).1
    simp only [groupsRun]
    rw [a, b, g]
    obtain ⟨m, hm⟩ : ∃ m : Nat, (l[i].f1 - l[i].f0 + 1).toNat = m + 1 := ⟨(l[i].f1 - l[i].f0).toNat, by omega⟩
    rw [hm, run_new _ _ _ bd.1 bd.2.2.2.2.1 (by omega) (take_new h i (by omega)) m (by omega) (fun j h0 h1 => by omega) (by omega)]
    rw [show l[i].f0 + (m : Int) = l[i].f1 from by omega]
    have e : l.take i ++ [(⟨l[i].f0, l[i].f1, l[i].f2⟩ : S47)] = l.take (i + 1) := by
      rw [List.take_succ_eq_append_getElem (by omega)]
    rw [e, show (i : Int) + 1 = ((i + 1 : Nat) : Int) from by omega]
    exact ih (i + 1) (by omega)
theorem rows_back {l : List S47} {t : ByteArray} (h : goodS l 4096 = true) (hrow : ∀ (j : Nat) (hj : j < l.length), gA t j = l[j].f0 ∧ gB t j = l[j].f1 ∧ gG t j = l[j].f2) : ∀ (r i : Nat) (last : Int), i + r = l.length → (i = 0 → last = -1) → (∀ h0 : 0 < i, ∀ h1 : i - 1 < l.length, last = l[i - 1].f1) → rowsOk t 4096 r i last := by
  intro r
  induction r with
  | zero => intro i last _ _ _; trivial
  | succ r ih =>
    intro i last hi h0 h1
    obtain ⟨a, b, g⟩ := hrow i (by omega)
    obtain ⟨bd, c⟩ := good_at h i (by omega)
    refine ⟨?_, ?_⟩
    · rw [a, b, g]
      by_cases hz : i = 0
      · have := h0 hz; omega
      · have := h1 (by omega) (by omega); have := (c (by omega)).1; omega
    · rw [b, show (i : Int) + 1 = ((i + 1 : Nat) : Int) from by omega]
      exact ih (i + 1) _ (by omega) (fun hh => by omega) (fun _ _ => rfl)
/-- the sums of the columns of the narrow table -/
def colD (x : S47) : List Int := p2 (x.f2 - x.f0)
def colF (x : S47) : List Int := p2 x.f0
def colL (x : S47) : List Int := p2 x.f1
theorem N_l4 (all : List S47) (m : Int) (hm0 : 0 ≤ m) (hm : m ≤ 100000) (hl : all.length ≤ 100000) (hb : ∀ x ∈ all, -10000000 ≤ x.f2 - x.f0 ∧ x.f2 - x.f0 ≤ 10000000) : ∀ (t : List S47) (n : Nat) (xs : List Int), all.drop n = t → n ≤ all.length → xs.length + 2 * t.length ≤ 100000000 →
    Ev (fun k => cmap_Build.l4 k m xs all (all.length : Int) n) (strOfNums (xs ++ (t.flatMap colD ++ List.replicate (2 * m).toNat 0)), 0) := by
  intro t
  induction t with
  | nil =>
    intro n xs h hn hx
    have := dropn h
    refine Ev.step (f := fun _ => some (strOfNums (xs ++ List.replicate (2 * m).toNat 0), 0)) (fun k => ?_) (by simpa using Ev.now _)
    rw [cmap_Build.l4, if_neg (by omega), wrap64_small (x := 2 * m) (by omega) (by omega), if_pos (by omega), if_pos (by omega)]
  | cons v t ih =>
    intro n xs h hn hx
    obtain ⟨hn2, hv, ht⟩ := dropc h
    simp only [List.length_cons] at hx
    have hbv := hb v (by rw [← hv]; exact List.getElem_mem _)
    have h2 := ih (n + 1) (xs ++ colD v) ht (by omega) (by simp [colD, p2]; omega)
    have h1 := put_ev xs [v.f2 - v.f0] (by simp) (by simp; omega)
    rw [show [v.f2 - v.f0].flatMap p2 = colD v from by simp [colD]] at h1
    refine Ev.step (f := fun k => (cmap_put.f k xs [v.f2 - v.f0]).bind fun t212 => cmap_Build.l4 k m t212 all (all.length : Int) ((n + 1 : Nat) : Int)) (fun k => ?_) (Ev.bind h1 (by simpa [List.flatMap_cons, List.append_assoc] using h2))
    rw [cmap_Build.l4, if_pos (by omega), if_pos (by omega), if_pos (by omega), rd47 hn2, hv, wrap64_small (x := (n : Int) + 1) (by omega) (by omega), wrap64_small (x := v.f2 - v.f0) (by omega) (by omega)]
    rfl
theorem N_l3 (all : List S47) (m : Int) (hm0 : 0 ≤ m) (hm : m ≤ 100000) (hl : all.length ≤ 100000) (hb : ∀ x ∈ all, -10000000 ≤ x.f2 - x.f0 ∧ x.f2 - x.f0 ≤ 10000000) : ∀ (t : List S47) (n : Nat) (xs : List Int), all.drop n = t → n ≤ all.length → xs.length + 2 * t.length ≤ 10000000 →
    Ev (fun k => cmap_Build.l3 k all m xs all (all.length : Int) n) (strOfNums (xs ++ (t.flatMap colF ++ (all.flatMap colD ++ List.replicate (2 * m).toNat 0))), 0) := by
  intro t
  induction t with
  | nil =>
    intro n xs h hn hx
    have := dropn h
    refine Ev.step (f := fun k => cmap_Build.l4 k m xs all (all.length : Int) ((0 : Nat) : Int)) (fun k => ?_) (by simpa using N_l4 all m hm0 hm hl hb all 0 xs rfl (Nat.zero_le _) (by omega))
    rw [cmap_Build.l3, if_neg (by omega)]
    rfl
  | cons v t ih =>
    intro n xs h hn hx
    obtain ⟨hn2, hv, ht⟩ := dropc h
    simp only [List.length_cons] at hx
    have h2 := ih (n + 1) (xs ++ colF v) ht (by omega) (by simp [colF, p2]; omega)
    have h1 := put_ev xs [v.f0] (by simp) (by simp; omega)
    rw [show [v.f0].flatMap p2 = colF v from by simp [colF]] at h1
    refine Ev.step (f := fun k => (cmap_put.f k xs [v.f0]).bind fun t204 => cmap_Build.l3 k all m t204 all (all.length : Int) ((n + 1 : Nat) : Int)) (fun k => ?_) (Ev.bind h1 (by simpa [List.flatMap_cons, List.append_assoc] using h2))
    rw [cmap_Build.l3, if_pos (by omega), if_pos (by omega), if_pos (by omega), rd47 hn2, hv, wrap64_small (x := (n : Int) + 1) (by omega) (by omega)]
    rfl
theorem N_l2 (all : List S47) (m : Int) (hm0 : 0 ≤ m) (hm : m ≤ 100000) (hl : all.length ≤ 100000) (hb : ∀ x ∈ all, -10000000 ≤ x.f2 - x.f0 ∧ x.f2 - x.f0 ≤ 10000000) : ∀ (t : List S47) (n : Nat) (xs : List Int), all.drop n = t → n ≤ all.length → xs.length + 2 * t.length ≤ 1000000 →
    Ev (fun k => cmap_Build.l2 k all m xs all (all.length : Int) n) (strOfNums (xs ++ (t.flatMap colL ++ (p2 0 ++ (all.flatMap colF ++ (all.flatMap colD ++ List.replicate (2 * m).toNat 0))))), 0) := by
  intro t
  induction t with
  | nil =>
    intro n xs h hn hx
    have := dropn h
    have h1 := put_ev xs [0] (by simp) (by simp; omega)
    rw [show [(0 : Int)].flatMap p2 = p2 0 from by simp] at h1
    have h2 := N_l3 all m hm0 hm hl hb all 0 (xs ++ p2 0) rfl (Nat.zero_le _) (by simp [p2]; omega)
    refine Ev.step (f := fun k => (cmap_put.f k xs [0]).bind fun t196 => cmap_Build.l3 k all m t196 all (all.length : Int) ((0 : Nat) : Int)) (fun k => ?_) (Ev.bind h1 (by simpa [List.append_assoc] using h2))
    rw [cmap_Build.l2, if_neg (by omega)]
    rfl
  | cons v t ih =>
    intro n xs h hn hx
    obtain ⟨hn2, hv, ht⟩ := dropc h
    simp only [List.length_cons] at hx
    have h2 := ih (n + 1) (xs ++ colL v) ht (by omega) (by simp [colL, p2]; omega)
    have h1 := put_ev xs [v.f1] (by simp) (by simp; omega)
    rw [show [v.f1].flatMap p2 = colL v from by simp [colL]] at h1
    refine Ev.step (f := fun k => (cmap_put.f k xs [v.f1]).bind fun t190 => cmap_Build.l2 k all m t190 all (all.length : Int) ((n + 1 : Nat) : Int)) (fun k => ?_) (Ev.bind h1 (by simpa [List.flatMap_cons, List.append_assoc] using h2))
    rw [cmap_Build.l2, if_pos (by omega), if_pos (by omega), if_pos (by omega), rd47 hn2, hv, wrap64_small (x := (n : Int) + 1) (by omega) (by omega)]
    rfl
/-- the narrow table's bytes -/
def bytesN (all : List S47) (m p q : Int) : List Int := [0, 1, 3, 1].flatMap p2 ++ ([12].flatMap p4 ++ ([4, 16 + 8 * m, 0, 2 * m, 2 * p, q, 2 * m - 2 * p].flatMap p2 ++ (all.flatMap colL ++ (p2 0 ++ (all.flatMap colF ++ (all.flatMap colD ++ List.replicate (2 * m).toNat 0))))))
theorem N_l1 (all : List S47) (m : Int) (hm0 : 0 ≤ m) (hm : m ≤ 100000) (hl : all.length ≤ 100000) (hb : ∀ x ∈ all, -10000000 ≤ x.f2 - x.f0 ∧ x.f2 - x.f0 ≤ 10000000) : ∀ (d : Nat) (p q : Int), m - p ≤ d → 1 ≤ p → p ≤ 100000 → 0 ≤ q → q + d ≤ 1000000 →
    ∃ p' q', Ev (fun k => cmap_Build.l1 k all m p q) (strOfNums (bytesN all m p' q'), 0) := by
  have done : ∀ p q : Int, 1 ≤ p → p ≤ 100000 → 0 ≤ q → q ≤ 1000000 → ¬ 2 * p ≤ m → ∃ p' q', Ev (fun k => cmap_Build.l1 k all m p q) (strOfNums (bytesN all m p' q'), 0) := by
    intro p q hp hp2 hq hq2 hle
    refine ⟨p, q, ?_⟩
    have h1 := put_ev [] [0, 1, 3, 1] (by simp) (by simp)
    have h2 := long_ev ([] ++ [0, 1, 3, 1].flatMap p2) [12] (by simp) (by simp [p2])
    have h3 := put_ev ([] ++ [0, 1, 3, 1].flatMap p2 ++ [12].flatMap p4) [4, 16 + 8 * m, 0, 2 * m, 2 * p, q, 2 * m - 2 * p] (by simp) (by simp [p2, p4])
    have h4 := N_l2 all m hm0 hm hl hb all 0 ([] ++ [0, 1, 3, 1].flatMap p2 ++ [12].flatMap p4 ++ [4, 16 + 8 * m, 0, 2 * m, 2 * p, q, 2 * m - 2 * p].flatMap p2) rfl (Nat.zero_le _) (by simp [p2, p4]; omega)
    refine Ev.step (f := fun k => (cmap_put.f k [] [0, 1, 3, 1]).bind fun t170 => (cmap_long.f k t170 [12]).bind fun t176 => (cmap_put.f k t176 [4, 16 + 8 * m, 0, 2 * m, 2 * p, q, 2 * m - 2 * p]).bind fun t182 => cmap_Build.l2 k all m t182 all (all.length : Int) ((0 : Nat) : Int)) (fun k => ?_) (Ev.bind h1 (Ev.bind h2 (Ev.bind h3 (by simpa [bytesN, List.append_assoc] using h4))))
    rw [cmap_Build.l1, wrap64_small (x := 2 * p) (by omega) (by omega), if_neg hle, wrap64_small (x := 8 * m) (by omega) (by omega), wrap64_small (x := 16 + 8 * m) (by omega) (by omega), wrap64_small (x := 2 * m) (by omega) (by omega), wrap64_small (x := 2 * m - 2 * p) (by omega) (by omega)]
    rfl
  intro d
  induction d with
  | zero => intro p q h hp hp2 hq hq2; exact done p q hp hp2 hq (by omega) (by omega)
  | succ d ih =>
    intro p q h hp hp2 hq hq2
    by_cases hle : 2 * p ≤ m
    · obtain ⟨p', q', he⟩ := ih (2 * p) (q + 1) (by omega) (by omega) (by omega) (by omega) (by omega)
      refine ⟨p', q', Ev.step (fun k => ?_) he⟩
      rw [cmap_Build.l1, wrap64_small (x := 2 * p) (by omega) (by omega), if_pos hle, wrap64_small (x := q + 1) (by omega) (by omega)]
    · exact done p q hp hp2 hq (by omega) hle
/-- the row that ends the narrow table -/
def endRow : S47 := ⟨65535, 65535, 65536⟩
theorem narrow_bd {l : List S47} (h : goodS l 4096 = true) : ∀ x ∈ l ++ [endRow], -10000000 ≤ x.f2 - x.f0 ∧ x.f2 - x.f0 ≤ 10000000 := by
  intro x hx
  rcases List.mem_append.1 hx with hx | hx
  · obtain ⟨j, hj, rfl⟩ := List.mem_iff_getElem.1 hx
    have := (good_at h j hj).1
    omega
  · rw [List.mem_singleton.1 hx]; decide
theorem BuildN_j1 {l : List S47} (h : goodS l 4096 = true) (hl : l.length ≤ 4095) : ∃ p q, Ev (fun k => cmap_Build.j1 k l false) (strOfNums (bytesN (l ++ [endRow]) (l.length + 1) p q), 0) := by
  have hlen : (l ++ [endRow]).length = l.length + 1 := by simp
  obtain ⟨p, q, he⟩ := N_l1 (l ++ [endRow]) ((l.length : Int) + 1) (by omega) (by omega) (by omega) (narrow_bd h) (l.length + 1) 1 0 (by omega) (by omega) (by omega) (by omega) (by omega)
  refine ⟨p, q, Ev.step (fun k => ?_) he⟩
  simp only [cmap_Build.j1]
  rw [if_neg (by decide), if_pos (by simp; omega)]
  simp only [Option.bind_some, List.nil_append]
  rw [if_pos (by omega)]
  show cmap_Build.l1 k (l ++ [endRow]) ((l ++ [endRow]).length : Int) 1 0 = _
  rw [hlen]
  rfl
/-- the narrow table, or that it is none -/
theorem BuildN_ev (l : List S47) (hl : l.length ≤ 100000) : Ev (fun k => cmap_Build.f k l false) ((⟨#[]⟩ : ByteArray), 110) ∨ (goodS l 4096 = true ∧ l.length ≤ 4095 ∧ (∀ h0 : 0 < l.length, (l[l.length - 1]'(by omega)).f1 ≤ 65534) ∧ ∃ p q, Ev (fun k => cmap_Build.f k l false) (strOfNums (bytesN (l ++ [endRow]) (l.length + 1) p q), 0)) := by
  have hj : Ev (fun k => cmap_Build.j1 k l true) ((⟨#[]⟩ : ByteArray), 110) := Ev.step (f := fun _ => some (⟨#[]⟩, 110)) (fun k => by simp only [cmap_Build.j1, if_true]) (Ev.now _)
  cases hg : goodS l 4096 with
  | false =>
    left
    have := Good_ev l 4096 hl
    rw [hg] at this
    refine Ev.bind this ?_
    simp only [Bool.false_eq_true, if_false]
    exact Ev.now _
  | true =>
    have hG := Good_ev l 4096 hl
    rw [hg] at hG
    by_cases h1 : l.length ≤ 4095
    · by_cases h0 : 0 < l.length
      · have er : rd_T47 l ((l.length : Int) - 1) = l[l.length - 1]'(by omega) := by
          rw [show (l.length : Int) - 1 = ((l.length - 1 : Nat) : Int) from by omega, rd47 (by omega)]
        by_cases h2 : (l[l.length - 1]'(by omega)).f1 > 65534
        · left
          refine Ev.bind hG ?_
          simp only [if_true, Bool.false_eq_true, if_false, wrap64_small (x := (l.length : Int) - 1) (by omega) (by omega), if_neg (show ¬ (l.length : Int) > 4095 from by omega), if_pos (show (l.length : Int) > 0 from by omega), if_pos (show 0 ≤ (l.length : Int) - 1 from by omega), if_pos (show (l.length : Int) - 1 < (l.length : Int) from by omega), er]
          rw [decide_eq_true h2]
          exact hj
        · right
          obtain ⟨p, q, he⟩ := BuildN_j1 hg h1
          refine ⟨rfl, h1, fun _ => by omega, p, q, Ev.bind hG ?_⟩
          simp only [if_true, Bool.false_eq_true, if_false, wrap64_small (x := (l.length : Int) - 1) (by omega) (by omega), if_neg (show ¬ (l.length : Int) > 4095 from by omega), if_pos (show (l.length : Int) > 0 from by omega), if_pos (show 0 ≤ (l.length : Int) - 1 from by omega), if_pos (show (l.length : Int) - 1 < (l.length : Int) from by omega), er]
          rw [decide_eq_false h2]
          exact he
      · right
        obtain ⟨p, q, he⟩ := BuildN_j1 hg h1
        refine ⟨rfl, h1, fun hh => absurd hh h0, p, q, Ev.bind hG ?_⟩
        simp only [if_true, Bool.false_eq_true, if_false, if_neg (show ¬ (l.length : Int) > 4095 from by omega), if_neg (show ¬ (l.length : Int) > 0 from by omega)]
        exact he
    · left
      refine Ev.bind hG ?_
      simp only [if_true, Bool.false_eq_true, if_false, if_pos (show (l.length : Int) > 4095 from by omega)]
      exact hj

end Go.Proofs.Ytldcgkkbmnahiaa.Px
