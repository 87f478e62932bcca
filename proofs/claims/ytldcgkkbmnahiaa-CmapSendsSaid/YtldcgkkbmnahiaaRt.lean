/- Spans taken of groups: good ones, in which is found what the groups send. -/
import Derived.Test.YtldcgkkbmnahiaaRs
import Derived.Test.YtldcgkkbmnahiaaSb
namespace Go.Proofs.Ytldcgkkbmnahiaa.Px
set_option linter.unusedSimpArgs false
set_option linter.unusedVariables false
open Go.RowKit Go.Proofs.YtldcgkkbmnahiaaW.PrintWords Go.Proofs.YtldcgkkbmnahiaaW.PrintLast Go.Proofs.YtldcgkkbmnahiaaW.PrintMore

theorem RChk.at_ : ∀ {rs : List S47}, RChk rs → ∀ (j : Nat) (hj : j < rs.reverse.length), P1 rs.reverse[j] ∧ (∀ hj0 : 0 < j, P2 (rs.reverse[j - 1]'(by omega)) rs.reverse[j]) := by
  intro rs
  induction rs with
  | nil => intro _ j hj; simp at hj
  | cons y r ih =>
    intro h j hj
    have hl : (y :: r).reverse.length = r.length + 1 := by simp
    have hr : r.reverse.length = r.length := by simp
    simp only [List.reverse_cons]
    by_cases h1 : j < r.length
    · rw [List.getElem_append_left (by omega)]
      refine ⟨(ih h.tail j (by omega)).1, fun hj0 => ?_⟩
      rw [List.getElem_append_left (by omega)]
      exact (ih h.tail j (by omega)).2 hj0
    · have hjr : j = r.length := by omega
      subst hjr
      rw [List.getElem_append_right (by omega)]
      simp only [hr, Nat.sub_self, List.getElem_cons_zero]
      refine ⟨h.head, fun hj0 => ?_⟩
      rw [List.getElem_append_left (by omega)]
      cases r with
      | nil => simp at hj0
      | cons z t =>
        have := h.next
        rw [show ((z :: t).reverse[(z :: t).length - 1]'(by simp)) = z from by simp]
        exact this
theorem goodL_of {l : List S47} (h : ∀ (j : Nat) (hj : j < l.length), P1 l[j] ∧ (∀ hj0 : 0 < j, P2 (l[j - 1]'(by omega)) l[j])) : ∀ (r i : Nat), i + r = l.length → goodL l 4096 r i = true := by
  intro r
  induction r with
  | zero => intro i _; rfl
  | succ r ih =>
    intro i hi
    obtain ⟨a, b⟩ := h i (by omega)
    simp only [goodL]
    rw [rd47 (show i < l.length from by omega)]
    have hx := a
    unfold P1 at hx
    have g1 : gBad1 l[i] = false := by
      unfold gBad1
      simp only [Bool.or_eq_false_iff, Bool.and_eq_false_iff, decide_eq_false_iff_not]
      omega
    have g2 : gBad2 l[i] 4096 = false := by
      unfold gBad2
      rw [wrap64_small (x := 4096 - l[i].f2) (by omega) (by omega), wrap64_small (x := l[i].f1 - l[i].f0) (by omega) (by omega)]
      simp only [Bool.or_eq_false_iff, decide_eq_false_iff_not]
      omega
    rw [g1, g2, if_neg (by decide), if_neg (by decide), if_neg]
    · exact ih (i + 1) (by omega)
    · rintro ⟨h0, hp⟩
      have hi0 : 0 < i := by omega
      have bp := b hi0
      have ap := (h (i - 1) (by omega)).1
      rw [show ((i : Nat) : Int) - 1 = ((i - 1 : Nat) : Int) from by omega, rd47 (show i - 1 < l.length from by omega)] at hp
      generalize l[i - 1]'(by omega) = Y at *
      generalize l[i] = X at *
      unfold P1 at ap
      unfold P2 at bp
      unfold pBad at hp
      rw [wrap64_small (x := Y.f1 + 1) (by omega) (by omega), wrap64_small (x := Y.f2 + Y.f1) (by omega) (by omega), wrap64_small (x := Y.f2 + Y.f1 - Y.f0) (by omega) (by omega), wrap64_small (x := Y.f2 + Y.f1 - Y.f0 + 1) (by omega) (by omega)] at hp
      simp only [Bool.or_eq_true, Bool.and_eq_true, decide_eq_true_eq, beq_iff_eq] at hp
      omega
theorem RChk.good {rs : List S47} (h : RChk rs) (hl : rs.length ≤ 4096) : goodS rs.reverse 4096 = true := by
  unfold goodS
  rw [if_neg (by simp; omega)]
  exact goodL_of h.at_ _ 0 (by omega)
/-- a code, looked for from the front on -/
def findF : List S47 → Int → Int
  | [], _ => 0
  | x :: xs, c => if x.f0 ≤ c ∧ c ≤ x.f1 then x.f2 + (c - x.f0) else findF xs c
theorem findS_F {l : List S47} {c : Int} (h : ∀ x ∈ l, P1 x) : ∀ (t : List S47) (i : Nat), l.drop i = t → findS l c t.length i = findF t c := by
  intro t
  induction t with
  | nil => intro i _; rfl
  | cons x t ih =>
    intro i hd
    obtain ⟨hi, hx, ht⟩ := dropc hd
    have h2 := ih (i + 1) ht
    have hp := h x (by rw [← hx]; exact List.getElem_mem _)
    unfold P1 at hp
    simp only [findS, findF, List.length_cons]
    rw [rd47 hi, hx]
    by_cases h3 : x.f0 ≤ c ∧ c ≤ x.f1
    · rw [if_pos h3, if_pos h3]
      unfold shownS
      rw [if_neg (by omega), if_pos (by omega)]
    · rw [if_neg h3, if_neg h3]
      exact h2
theorem findF_snoc : ∀ (xs : List S47) (y : S47) (c : Int), (∀ x ∈ xs, x.f1 < y.f0) → findF (xs ++ [y]) c = if y.f0 ≤ c then (if c ≤ y.f1 then y.f2 + (c - y.f0) else 0) else findF xs c := by
  intro xs
  induction xs with
  | nil =>
    intro y c _
    simp only [List.nil_append, findF]
    by_cases h1 : y.f0 ≤ c
    · rw [if_pos h1]
      by_cases h2 : c ≤ y.f1
      · rw [if_pos ⟨h1, h2⟩, if_pos h2]
      · rw [if_neg (fun h => h2 h.2), if_neg h2]
    · rw [if_neg (fun h => h1 h.1), if_neg h1]
  | cons x xs ih =>
    intro y c h
    have hx := h x (List.mem_cons_self ..)
    have h2 := ih y c (fun z hz => h z (List.mem_cons_of_mem _ hz))
    simp only [List.cons_append, findF]
    rw [h2]
    by_cases h3 : x.f0 ≤ c ∧ c ≤ x.f1
    · rw [if_pos h3, if_neg (by omega), if_pos h3]
    · rw [if_neg h3, if_neg h3]
theorem RChk.findL : ∀ {rs : List S47}, RChk rs → ∀ c, findF rs.reverse c = findR rs c := by
  intro rs
  induction rs with
  | nil => intro _ c; rfl
  | cons y r ih =>
    intro h c
    rw [List.reverse_cons, findF_snoc _ _ _ (fun x hx => h.below x (List.mem_reverse.1 hx))]
    simp only [findR]
    rw [ih h.tail]
theorem RChk.all : ∀ {rs : List S47}, RChk rs → ∀ x ∈ rs, P1 x := by
  intro rs
  induction rs with
  | nil => intro _ x hx; cases hx
  | cons y r ih =>
    intro h x hx
    rcases List.mem_cons.1 hx with rfl | hx
    · exact h.head
    · exact ih h.tail x hx
theorem RChk.findS {rs : List S47} (h : RChk rs) (c : Int) : findS rs.reverse c rs.reverse.length 0 = findR rs c := by
  rw [show (0 : Int) = ((0 : Nat) : Int) from rfl, findS_F (l := rs.reverse) (fun x hx => h.all x (List.mem_reverse.1 hx)) rs.reverse 0 rfl, h.findL]
/-- the groups that are sent: rising rows, short, of small glyphs -/
def RowsOk (at_ : Int) : List S47 → Prop
  | [] => True
  | x :: t => at_ ≤ x.f0 ∧ x.f0 ≤ x.f1 ∧ x.f1 ≤ 1114111 ∧ x.f1 - x.f0 < 300 ∧ 0 ≤ x.f2 ∧ x.f2 ≤ 3000 ∧ RowsOk (x.f1 + 1) t
/-- what they come to, the last span ahead -/
def sendR (rs : List S47) : List S47 → List S47
  | [] => rs
  | x :: t => sendR (runR rs x.f0 x.f2 (x.f1 - x.f0 + 1).toNat) t
/-- what they send a code to -/
def wantR (c w : Int) : List S47 → Int
  | [] => w
  | x :: t => wantR c (if (x.f0 ≤ c ∧ c ≤ x.f1) ∧ ¬ (55296 ≤ c ∧ c ≤ 57343) then x.f2 + (c - x.f0) else w) t
theorem send_ok : ∀ (t : List S47) (at_ : Int) (rs : List S47) (c w : Int), RowsOk at_ t → 0 ≤ at_ → RChk rs → (∀ y ∈ rs, y.f1 < at_) → findR rs c = w →
    RChk (sendR rs t) ∧ findR (sendR rs t) c = wantR c w t ∧ (sendR rs t).length ≤ rs.length + t.length := by
  intro t
  induction t with
  | nil => intro at_ rs c w _ _ h _ hw; exact ⟨h, hw, Nat.le_refl _⟩
  | cons x t ih =>
    intro at_ rs c w hr h0 h hb hw
    obtain ⟨r1, r2, r3, r4, r5, r6, r7⟩ := hr
    have hb' : ∀ y ∈ rs, y.f1 < x.f0 := fun y hy => by have := hb y hy; omega
    obtain ⟨a, b, e, _⟩ := runR_ok h hb' (by omega) r5 (x.f1 - x.f0 + 1).toNat (by omega) (by omega)
    have hlen : (runR rs x.f0 x.f2 (x.f1 - x.f0 + 1).toNat).length ≤ rs.length + 1 := by
      rcases runR_len h hb' (by omega) r5 (x.f1 - x.f0 + 1).toNat (by omega) (by omega) (by omega) with e | ⟨y, r, e, hr, _, _⟩ | ⟨hl, _, _, _⟩
      · rw [e]; omega
      · rw [e, List.length_cons]; omega
      · exact hl
    obtain ⟨p, q, s⟩ := ih (x.f1 + 1) (runR rs x.f0 x.f2 (x.f1 - x.f0 + 1).toNat) c (if (x.f0 ≤ c ∧ c ≤ x.f1) ∧ ¬ (55296 ≤ c ∧ c ≤ 57343) then x.f2 + (c - x.f0) else w) r7 (by omega) a (fun y hy => by have := b y hy; omega) (by
      rw [e c, hw]
      by_cases h5 : (x.f0 ≤ c ∧ c ≤ x.f1) ∧ ¬ (55296 ≤ c ∧ c ≤ 57343)
      · rw [if_pos h5, if_pos (by omega)]
      · rw [if_neg h5, if_neg (by omega)])
    exact ⟨p, q, by rw [List.length_cons]; show (sendR _ t).length ≤ _; omega⟩
theorem rows_at {at_ : Int} : ∀ {R : List S47}, RowsOk at_ R → 0 ≤ at_ → ∀ (j : Nat) (hj : j < R.length), 0 ≤ R[j].f0 ∧ R[j].f0 ≤ R[j].f1 ∧ R[j].f1 ≤ 1114111 ∧ 0 ≤ R[j].f2 ∧ R[j].f2 ≤ 3000 ∧ R[j].f1 - R[j].f0 < 300 := by
  intro R
  induction R generalizing at_ with
  | nil => intro _ _ j hj; simp at hj
  | cons x t ih =>
    intro h h0 j hj
    obtain ⟨r1, r2, r3, r4, r5, r6, r7⟩ := h
    cases j with
    | zero => simp only [List.getElem_cons_zero]; omega
    | succ j => simp only [List.getElem_cons_succ]; exact ih r7 (by omega) j (by simpa using hj)
theorem rows_back' {R : List S47} {t : ByteArray} (hrow : ∀ (j : Nat) (hj : j < R.length), gA t j = R[j].f0 ∧ gB t j = R[j].f1 ∧ gG t j = R[j].f2) : ∀ (T : List S47) (i : Nat) (at_ last : Int) (rs : List S47), R.drop i = T → RowsOk at_ T → 0 ≤ at_ → last < at_ → RChk rs → (∀ y ∈ rs, y.f1 < at_) →
    rowsOk t 4096 T.length i last ∧ groupsRun t T.length i rs.reverse = (sendR rs T).reverse := by
  intro T
  induction T with
  | nil => intro i at_ last rs _ _ _ _ _ _; exact ⟨trivial, rfl⟩
  | cons x T ih =>
    intro i at_ last rs hd hr h0 hlast h hb
    obtain ⟨hi, hx, ht⟩ := dropc hd
    obtain ⟨a, b, g⟩ := hrow i hi
    obtain ⟨r1, r2, r3, r4, r5, r6, r7⟩ := hr
    rw [hx] at a b g
    have hb' : ∀ y ∈ rs, y.f1 < x.f0 := fun y hy => by have := hb y hy; omega
    obtain ⟨p, q, _, f⟩ := runR_ok h hb' (by omega) r5 (x.f1 - x.f0 + 1).toNat (by omega) (by omega)
    obtain ⟨u, v⟩ := ih (i + 1) (x.f1 + 1) x.f1 (runR rs x.f0 x.f2 (x.f1 - x.f0 + 1).toNat) ht r7 (by omega) (by omega) p (fun y hy => by have := q y hy; omega)
    simp only [rowsOk, groupsRun, List.length_cons]
    rw [a, b, g]
    refine ⟨⟨by omega, u⟩, ?_⟩
    rw [f]
    exact v

end Go.Proofs.Ytldcgkkbmnahiaa.Px
