/- What Build answers for a narrow table, told exactly. -/
import Derived.Test.YtldcgkkbmnahiaaRm
namespace Go.Proofs.Ytldcgkkbmnahiaa.Px
set_option linter.unusedSimpArgs false
set_option linter.unusedVariables false
open Go.RowKit Go.Proofs.YtldcgkkbmnahiaaW.PrintWords Go.Proofs.YtldcgkkbmnahiaaW.PrintLast Go.Proofs.YtldcgkkbmnahiaaW.PrintMore

/-- the greatest power of two, and its exponent -/
def powS (m : Int) : Nat → Int → Int → Int × Int
  | 0, p, q => (p, q)
  | d + 1, p, q => if 2 * p ≤ m then powS m d (2 * p) (q + 1) else (p, q)
theorem powS_no {m : Int} (d : Nat) {p q : Int} (h : ¬ 2 * p ≤ m) : powS m d p q = (p, q) := by
  cases d with
  | zero => rfl
  | succ d => simp only [powS]; rw [if_neg h]
theorem powS_bd {m : Int} (hm : m ≤ 100000) : ∀ (d : Nat) (p q : Int), 1 ≤ p → p ≤ 100000 → 0 ≤ q → q + d ≤ 1000000 → 1 ≤ (powS m d p q).1 ∧ (powS m d p q).1 ≤ 100000 ∧ 0 ≤ (powS m d p q).2 ∧ (powS m d p q).2 ≤ 1000000 := by
  intro d
  induction d with
  | zero => intro p q a b c e; exact ⟨a, b, c, by simp only [powS]; omega⟩
  | succ d ih =>
    intro p q a b c e
    simp only [powS]
    by_cases h : 2 * p ≤ m
    · rw [if_pos h]; exact ih _ _ (by omega) (by omega) (by omega) (by omega)
    · rw [if_neg h]; exact ⟨a, b, c, by show q ≤ _; omega⟩
theorem N_l1' (all : List S47) (m : Int) (hm0 : 0 ≤ m) (hm : m ≤ 100000) (hl : all.length ≤ 100000) (hb : ∀ x ∈ all, -10000000 ≤ x.f2 - x.f0 ∧ x.f2 - x.f0 ≤ 10000000) : ∀ (d : Nat) (p q : Int), m - p ≤ d → 1 ≤ p → p ≤ 100000 → 0 ≤ q → q + d ≤ 1000000 →
    Ev (fun k => cmap_Build.l1 k all m p q) (strOfNums (bytesN all m (powS m d p q).1 (powS m d p q).2), 0) := by
  have done : ∀ p q : Int, 1 ≤ p → p ≤ 100000 → 0 ≤ q → q ≤ 1000000 → ¬ 2 * p ≤ m → Ev (fun k => cmap_Build.l1 k all m p q) (strOfNums (bytesN all m p q), 0) := by
    intro p q hp hp2 hq hq2 hle
    have h1 := put_ev [] [0, 1, 3, 1] (by simp) (by simp)
    have h2 := long_ev ([] ++ [0, 1, 3, 1].flatMap p2) [12] (by simp) (by simp [p2])
    have h3 := put_ev ([] ++ [0, 1, 3, 1].flatMap p2 ++ [12].flatMap p4) [4, 16 + 8 * m, 0, 2 * m, 2 * p, q, 2 * m - 2 * p] (by simp) (by simp [p2, p4])
    have h4 := N_l2 all m hm0 hm hl hb all 0 ([] ++ [0, 1, 3, 1].flatMap p2 ++ [12].flatMap p4 ++ [4, 16 + 8 * m, 0, 2 * m, 2 * p, q, 2 * m - 2 * p].flatMap p2) rfl (Nat.zero_le _) (by simp [p2, p4]; omega)
    refine Ev.step (f := fun k => (cmap_put.f k [] [0, 1, 3, 1]).bind fun t170 => (cmap_long.f k t170 [12]).bind fun t176 => (cmap_put.f k t176 [4, 16 + 8 * m, 0, 2 * m, 2 * p, q, 2 * m - 2 * p]).bind fun t182 => cmap_Build.l2 k all m t182 all (all.length : Int) ((0 : Nat) : Int)) (fun k => ?_) (Ev.bind h1 (Ev.bind h2 (Ev.bind h3 (by simpa [bytesN, List.append_assoc] using h4))))
    rw [cmap_Build.l1, wrap64_small (x := 2 * p) (by omega) (by omega), if_neg hle, wrap64_small (x := 8 * m) (by omega) (by omega), wrap64_small (x := 16 + 8 * m) (by omega) (by omega), wrap64_small (x := 2 * m) (by omega) (by omega), wrap64_small (x := 2 * m - 2 * p) (by omega) (by omega)]
    rfl
  intro d
  induction d with
  | zero => intro p q h hp hp2 hq hq2; exact done p q hp hp2 hq (by omega) (by omega)
  | succ d ih =>
    intro p q h hp hp2 hq hq2
    simp only [powS]
    by_cases hle : 2 * p ≤ m
    · have he := ih (2 * p) (q + 1) (by omega) (by omega) (by omega) (by omega) (by omega)
      rw [if_pos hle]
      refine Ev.step (fun k => ?_) he
      rw [cmap_Build.l1, wrap64_small (x := 2 * p) (by omega) (by omega), if_pos hle, wrap64_small (x := q + 1) (by omega) (by omega)]
    · rw [if_neg hle]
      exact done p q hp hp2 hq (by omega) hle
/-- the power that the narrow table tells -/
def powN (l : List S47) : Int × Int := powS ((l.length : Int) + 1) (l.length + 1) 1 0
theorem BuildN_j1' {l : List S47} (h : goodS l 4096 = true) (hl : l.length ≤ 4095) : Ev (fun k => cmap_Build.j1 k l false) (strOfNums (bytesN (l ++ [endRow]) (l.length + 1) (powN l).1 (powN l).2), 0) := by
  have hlen : (l ++ [endRow]).length = l.length + 1 := by simp
  have he := N_l1' (l ++ [endRow]) ((l.length : Int) + 1) (by omega) (by omega) (by omega) (narrow_bd h) (l.length + 1) 1 0 (by omega) (by omega) (by omega) (by omega) (by omega)
  refine Ev.step (fun k => ?_) he
  simp only [cmap_Build.j1]
  rw [if_neg (by decide), if_pos (by simp; omega)]
  simp only [Option.bind_some, List.nil_append]
  rw [if_pos (by omega)]
  show cmap_Build.l1 k (l ++ [endRow]) ((l ++ [endRow]).length : Int) 1 0 = _
  rw [hlen]
  rfl
/-- what Build answers for a narrow table -/
def buildN (l : List S47) : ByteArray × Int :=
  if goodS l 4096 = false then (⟨#[]⟩, 110) else if 4095 < l.length then (⟨#[]⟩, 110) else if (∃ x ∈ l, 65534 < x.f1) then (⟨#[]⟩, 110)
  else (strOfNums (bytesN (l ++ [endRow]) (l.length + 1) (powN l).1 (powN l).2), 0)
theorem over_last {l : List S47} (hg : goodS l 4096 = true) (h0 : 0 < l.length) (h : (l[l.length - 1]'(by omega)).f1 ≤ 65534) : ¬ ∃ x ∈ l, 65534 < x.f1 := by
  rintro ⟨x, hx, hlt⟩
  obtain ⟨j, hj, rfl⟩ := List.mem_iff_getElem.1 hx
  have all : ∀ (d j : Nat) (hj : j < l.length), j + d + 1 = l.length → l[j].f1 ≤ 65534 := by
    intro d
    induction d with
    | zero => intro j hj e; have e2 : l.length - 1 = j := by omega
              subst e2
              exact h
    | succ d ih =>
      intro j hj e
      have h1 := ih (j + 1) (by omega) (by omega)
      have h2 := (good_at hg (j + 1) (by omega)).2 (by omega)
      have h3 := (good_at hg (j + 1) (by omega)).1
      simp only [Nat.add_sub_cancel] at h2
      omega
  have := all (l.length - 1 - j) j hj (by omega)
  omega
theorem BuildN_ev' (l : List S47) (hl : l.length ≤ 100000) : Ev (fun k => cmap_Build.f k l false) (buildN l) := by
  have hj : Ev (fun k => cmap_Build.j1 k l true) ((⟨#[]⟩ : ByteArray), 110) := Ev.step (f := fun _ => some (⟨#[]⟩, 110)) (fun k => by simp only [cmap_Build.j1, if_true]) (Ev.now _)
  have hG := Good_ev l 4096 hl
  unfold buildN
  cases hg : goodS l 4096 with
  | false =>
    rw [hg] at hG
    rw [if_pos rfl]
    refine Ev.bind hG ?_
    simp only [Bool.false_eq_true, if_false]
    exact Ev.now _
  | true =>
    rw [hg] at hG
    rw [if_neg (by decide)]
    by_cases h1 : l.length ≤ 4095
    · rw [if_neg (by omega)]
      by_cases h0 : 0 < l.length
      · have er : rd_T47 l ((l.length : Int) - 1) = l[l.length - 1]'(by omega) := by
          rw [show (l.length : Int) - 1 = ((l.length - 1 : Nat) : Int) from by omega, rd47 (by omega)]
        by_cases h2 : (l[l.length - 1]'(by omega)).f1 > 65534
        · rw [if_pos ⟨_, List.getElem_mem _, h2⟩]
          refine Ev.bind hG ?_
          simp only [if_true, Bool.false_eq_true, if_false, wrap64_small (x := (l.length : Int) - 1) (by omega) (by omega), if_neg (show ¬ (l.length : Int) > 4095 from by omega), if_pos (show (l.length : Int) > 0 from by omega), if_pos (show 0 ≤ (l.length : Int) - 1 from by omega), if_pos (show (l.length : Int) - 1 < (l.length : Int) from by omega), er]
          rw [decide_eq_true h2]
          exact hj
        · rw [if_neg (over_last hg h0 (by omega))]
          have he := BuildN_j1' hg h1
          refine Ev.bind hG ?_
          simp only [if_true, Bool.false_eq_true, if_false, wrap64_small (x := (l.length : Int) - 1) (by omega) (by omega), if_neg (show ¬ (l.length : Int) > 4095 from by omega), if_pos (show (l.length : Int) > 0 from by omega), if_pos (show 0 ≤ (l.length : Int) - 1 from by omega), if_pos (show (l.length : Int) - 1 < (l.length : Int) from by omega), er]
          rw [decide_eq_false h2]
          exact he
      · have e0 : l = [] := List.eq_nil_of_length_eq_zero (by omega)
        rw [if_neg (by rintro ⟨x, hx, _⟩; rw [e0] at hx; cases hx)]
        have he := BuildN_j1' hg h1
        refine Ev.bind hG ?_
        simp only [if_true, Bool.false_eq_true, if_false, if_neg (show ¬ (l.length : Int) > 4095 from by omega), if_neg (show ¬ (l.length : Int) > 0 from by omega)]
        exact he
    · rw [if_pos (by omega)]
      refine Ev.bind hG ?_
      simp only [if_true, Bool.false_eq_true, if_false, if_pos (show (l.length : Int) > 4095 from by omega)]
      exact hj

end Go.Proofs.Ytldcgkkbmnahiaa.Px
