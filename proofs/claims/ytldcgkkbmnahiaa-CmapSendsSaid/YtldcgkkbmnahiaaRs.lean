/- Spans taken one code after another: what they stand for. -/
import Derived.Test.YtldcgkkbmnahiaaRm
namespace Go.Proofs.Ytldcgkkbmnahiaa.Px
set_option linter.unusedSimpArgs false
set_option linter.unusedVariables false
open Go.RowKit Go.Proofs.YtldcgkkbmnahiaaW.PrintWords Go.Proofs.YtldcgkkbmnahiaaW.PrintLast Go.Proofs.YtldcgkkbmnahiaaW.PrintMore

/-- a span that may be; two that may follow one another -/
def P1 (x : S47) : Prop := 0 ≤ x.f0 ∧ x.f0 ≤ x.f1 ∧ x.f1 ≤ 1114111 ∧ ¬ (x.f0 ≤ 57343 ∧ 55296 ≤ x.f1) ∧ 1 ≤ x.f2 ∧ x.f1 - x.f0 < 4096 - x.f2
def P2 (y x : S47) : Prop := y.f1 < x.f0 ∧ ¬ (x.f0 = y.f1 + 1 ∧ x.f2 = y.f2 + y.f1 - y.f0 + 1)
/-- spans, the last one ahead -/
def RChk : List S47 → Prop
  | [] => True
  | [x] => P1 x
  | x :: y :: r => P1 x ∧ P2 y x ∧ RChk (y :: r)
theorem RChk.head {x : S47} {r : List S47} (h : RChk (x :: r)) : P1 x := by
  cases r with
  | nil => exact h
  | cons y r => exact h.1
theorem RChk.tail {x : S47} {r : List S47} (h : RChk (x :: r)) : RChk r := by
  cases r with
  | nil => trivial
  | cons y r => exact h.2.2
theorem RChk.next {x y : S47} {r : List S47} (h : RChk (x :: y :: r)) : P2 y x := h.2.1
theorem RChk.cons {x : S47} {r : List S47} (h : RChk r) (hx : P1 x) (h2 : ∀ y t, r = y :: t → P2 y x) : RChk (x :: r) := by
  cases r with
  | nil => exact hx
  | cons y r => exact ⟨hx, h2 y r rfl, h⟩
theorem RChk.below : ∀ {r : List S47} {x : S47}, RChk (x :: r) → ∀ y ∈ r, y.f1 < x.f0 := by
  intro r
  induction r with
  | nil => intro x _ y hy; cases hy
  | cons z r ih =>
    intro x h y hy
    have h1 := h.next.1
    have hz := h.tail.head
    rcases List.mem_cons.1 hy with rfl | hy
    · exact h1
    · have := ih h.tail y hy; unfold P1 at hz; omega
/-- a code taken -/
def takeR (rs : List S47) (c g : Int) : List S47 :=
  if g = 0 ∨ (55296 ≤ c ∧ c ≤ 57343) then rs
  else match rs with
    | [] => [⟨c, c, g⟩]
    | y :: r => if y.f1 + 1 = c ∧ y.f2 + c - y.f0 = g then ⟨y.f0, c, y.f2⟩ :: r else ⟨c, c, g⟩ :: y :: r
theorem lastT_snoc (ys : List S47) (y : S47) : lastT (ys ++ [y]) = y := by
  unfold lastT
  rw [List.length_append, List.length_singleton, show (((ys.length + 1 : Nat) : Int) - 1) = ((ys.length : Nat) : Int) from by omega, rd47 (by simp)]
  simp
theorem takeS_R {rs : List S47} {c g : Int} (h : RChk rs) (hc0 : 0 ≤ c) (hc : c ≤ 1114111) : takeS rs.reverse c g = (takeR rs c g).reverse := by
  unfold takeS takeR
  by_cases h1 : g = 0 ∨ (55296 ≤ c ∧ c ≤ 57343)
  · rw [if_pos h1, if_pos h1]
  · rw [if_neg h1, if_neg h1]
    cases rs with
    | nil => simp
    | cons y r =>
      have hy := h.head
      unfold P1 at hy
      rw [List.reverse_cons, lastT_snoc]
      have e1 : wrap64 (y.f1 + 1) = y.f1 + 1 := wrap64_small (by omega) (by omega)
      have e2 : wrap64 (wrap64 (y.f2 + c) - y.f0) = y.f2 + c - y.f0 := by rw [wrap64_small (x := y.f2 + c) (by omega) (by omega), wrap64_small (by omega) (by omega)]
      rw [e1, e2]
      by_cases h2 : y.f1 + 1 = c ∧ y.f2 + c - y.f0 = g
      · rw [if_pos ⟨by simp, h2⟩]
        simp only [if_pos h2]
        rw [List.reverse_cons, List.length_append, List.length_singleton, show ((((r.reverse.length + 1 : Nat) : Int) - 1)).toNat = r.reverse.length from by omega]
        simp [List.set_append]
      · rw [if_neg (fun hh => h2 hh.2)]
        simp only [if_neg h2]
        simp
/-- where a code is found, from the last span on -/
def findR : List S47 → Int → Int
  | [], _ => 0
  | y :: r, c => if y.f0 ≤ c then (if c ≤ y.f1 then y.f2 + (c - y.f0) else 0) else findR r c
theorem takeR_ok {rs : List S47} {c g : Int} (h : RChk rs) (hb : ∀ y ∈ rs, y.f1 < c) (hc0 : 0 ≤ c) (hc : c ≤ 1114111) (hg0 : 0 ≤ g) (hg : g < 4096) :
    RChk (takeR rs c g) ∧ (∀ y ∈ takeR rs c g, y.f1 < c + 1) ∧ (∀ d, findR (takeR rs c g) d = if d = c ∧ ¬ (55296 ≤ c ∧ c ≤ 57343) then g else findR rs d) := by
  have none_ : ∀ rs : List S47, (∀ y ∈ rs, y.f1 < c) → findR rs c = 0 := by
    intro rs hb
    induction rs with
    | nil => rfl
    | cons y r ih =>
      have := hb y (List.mem_cons_self ..)
      simp only [findR]
      rw [ih (fun z hz => hb z (List.mem_cons_of_mem _ hz)), if_neg (show ¬ c ≤ y.f1 by omega)]
      split <;> rfl
  unfold takeR
  by_cases h1 : g = 0 ∨ (55296 ≤ c ∧ c ≤ 57343)
  · rw [if_pos h1]
    refine ⟨h, fun y hy => by have := hb y hy; omega, fun d => ?_⟩
    by_cases h2 : d = c ∧ ¬ (55296 ≤ c ∧ c ≤ 57343)
    · rw [if_pos h2, h2.1, none_ rs hb]; omega
    · rw [if_neg h2]
  · rw [if_neg h1]
    cases rs with
    | nil =>
      refine ⟨by show P1 _; unfold P1; simp only; omega, fun y hy => by rw [List.mem_singleton.1 hy]; show c < c + 1; omega, fun d => ?_⟩
      simp only [findR]
      by_cases h2 : d = c ∧ ¬ (55296 ≤ c ∧ c ≤ 57343)
      · rw [if_pos h2, if_pos (by omega), if_pos (by omega)]; omega
      · rw [if_neg h2]
        by_cases h3 : c ≤ d
        · rw [if_pos h3, if_neg (by omega)]
        · rw [if_neg h3]
    | cons y r =>
      have hy := h.head
      have hyb := hb y (List.mem_cons_self ..)
      unfold P1 at hy
      by_cases h2 : y.f1 + 1 = c ∧ y.f2 + c - y.f0 = g
      · simp only [if_pos h2]
        refine ⟨RChk.cons h.tail (by unfold P1; simp only; omega) (fun z t e => ?_), fun z hz => ?_, fun d => ?_⟩
        · subst e
          have := h.next
          unfold P2 at this ⊢
          simp only
          exact this
        · rcases List.mem_cons.1 hz with rfl | hz
          · show c < c + 1; omega
          · have := hb z (List.mem_cons_of_mem _ hz); omega
        · simp only [findR]
          by_cases h4 : d = c ∧ ¬ (55296 ≤ c ∧ c ≤ 57343)
          · rw [if_pos h4, if_pos (by omega), if_pos (by omega)]; omega
          · rw [if_neg h4]
            by_cases h5 : y.f0 ≤ d
            · rw [if_pos h5, if_pos h5]
              by_cases h6 : d ≤ y.f1
              · rw [if_pos h6, if_pos (by omega)]
              · rw [if_neg h6, if_neg (by omega)]
            · rw [if_neg h5, if_neg h5]
      · simp only [if_neg h2]
        refine ⟨RChk.cons h (by unfold P1; simp only; omega) (fun z t e => ?_), fun z hz => ?_, fun d => ?_⟩
        · injection e with e1 e2
          subst e1
          unfold P2
          simp only
          exact ⟨hyb, fun hh => h2 ⟨by omega, by omega⟩⟩
        · rcases List.mem_cons.1 hz with rfl | hz
          · show c < c + 1; omega
          · have := hb z hz; omega
        · simp only [findR]
          by_cases h4 : d = c ∧ ¬ (55296 ≤ c ∧ c ≤ 57343)
          · rw [if_pos h4, if_pos (by omega), if_pos (by omega)]; omega
          · rw [if_neg h4]
            by_cases h5 : c ≤ d
            · rw [if_pos h5, if_neg (by omega), if_pos (by omega), if_neg (by omega)]
            · rw [if_neg h5]
/-- a run of codes taken -/
def runR (rs : List S47) (c g : Int) : Nat → List S47
  | 0 => rs
  | m + 1 => takeR (runR rs c g m) (c + m) (g + m)
theorem runR_ok {rs : List S47} {c g : Int} (h : RChk rs) (hb : ∀ y ∈ rs, y.f1 < c) (hc0 : 0 ≤ c) (hg0 : 0 ≤ g) : ∀ m : Nat, c + m ≤ 1114112 → g + m ≤ 4096 →
    RChk (runR rs c g m) ∧ (∀ y ∈ runR rs c g m, y.f1 < c + m) ∧ (∀ d, findR (runR rs c g m) d = if (c ≤ d ∧ d < c + m) ∧ ¬ (55296 ≤ d ∧ d ≤ 57343) then g + (d - c) else findR rs d) ∧ takeRun rs.reverse c g m = (runR rs c g m).reverse := by
  intro m
  induction m with
  | zero => intro _ _; exact ⟨h, fun y hy => by have := hb y hy; omega, fun d => by rw [if_neg (by omega)]; rfl, rfl⟩
  | succ m ih =>
    intro h1 h2
    obtain ⟨a, b, e, f⟩ := ih (by omega) (by omega)
    obtain ⟨a', b', e'⟩ := takeR_ok a b (show 0 ≤ c + (m : Int) by omega) (by omega) (show 0 ≤ g + (m : Int) by omega) (by omega)
    refine ⟨a', fun y hy => by have := b' y hy; omega, fun d => ?_, ?_⟩
    · show findR (takeR (runR rs c g m) (c + m) (g + m)) d = _
      rw [e' d, e d]
      by_cases h3 : d = c + m ∧ ¬ (55296 ≤ c + (m : Int) ∧ c + (m : Int) ≤ 57343)
      · rw [if_pos h3, if_pos (by omega)]; omega
      · rw [if_neg h3]
        by_cases h4 : (c ≤ d ∧ d < c + m) ∧ ¬ (55296 ≤ d ∧ d ≤ 57343)
        · rw [if_pos h4, if_pos (by omega)]
        · rw [if_neg h4, if_neg (by omega)]
    · show takeS (takeRun rs.reverse c g m) (c + m) (g + m) = _
      rw [f, takeS_R a (by omega) (by omega)]
      rfl
/-- a short run makes one span at most -/
theorem runR_len {rs : List S47} {c g : Int} (h : RChk rs) (hb : ∀ y ∈ rs, y.f1 < c) (hc0 : 0 ≤ c) (hg0 : 0 ≤ g) : ∀ m : Nat, m ≤ 300 → c + m ≤ 1114112 → g + m ≤ 4096 →
    (runR rs c g m = rs ∨ (∃ y r, runR rs c g m = y :: r ∧ r.length ≤ rs.length ∧ y.f1 + 1 = c + m ∧ y.f2 + (c + m) - y.f0 = g + m) ∨ ((runR rs c g m).length ≤ rs.length + 1 ∧ 55296 ≤ c + (m : Int) - 1 ∧ c + (m : Int) - 1 ≤ 57343 ∧ c ≤ 55296)) := by
  intro m
  induction m with
  | zero => intro _ _ _; left; rfl
  | succ m ih =>
    intro h0 h1 h2
    show takeR (runR rs c g m) (c + m) (g + m) = rs ∨ _
    have er : runR rs c g (m + 1) = takeR (runR rs c g m) (c + m) (g + m) := rfl
    rw [er]
    rcases ih (by omega) (by omega) (by omega) with e | ⟨y, r, e, hr, hl, hm⟩ | ⟨hl, ha, hb2, hc3⟩
    · rw [e]
      unfold takeR
      by_cases h3 : g + (m : Int) = 0 ∨ (55296 ≤ c + (m : Int) ∧ c + (m : Int) ≤ 57343)
      · rw [if_pos h3]; left; rfl
      · rw [if_neg h3]
        right; left
        cases rs with
        | nil => exact ⟨_, _, rfl, Nat.le_refl _, by show c + (m : Int) + 1 = _; omega, by show g + (m : Int) + (c + ((m + 1 : Nat) : Int)) - (c + (m : Int)) = _; omega⟩
        | cons z t =>
          by_cases h4 : z.f1 + 1 = c + (m : Int) ∧ z.f2 + (c + (m : Int)) - z.f0 = g + (m : Int)
          · simp only [if_pos h4]
            exact ⟨_, _, rfl, by simp, by show c + (m : Int) + 1 = _; omega, by show z.f2 + (c + ((m + 1 : Nat) : Int)) - z.f0 = _; omega⟩
          · simp only [if_neg h4]
            exact ⟨_, _, rfl, Nat.le_refl _, by show c + (m : Int) + 1 = _; omega, by show g + (m : Int) + (c + ((m + 1 : Nat) : Int)) - (c + (m : Int)) = _; omega⟩
    · rw [e]
      unfold takeR
      by_cases h3 : g + (m : Int) = 0 ∨ (55296 ≤ c + (m : Int) ∧ c + (m : Int) ≤ 57343)
      · rw [if_pos h3]
        right; right
        obtain ⟨a, b, _, _⟩ := runR_ok h hb hc0 hg0 m (by omega) (by omega)
        rw [e] at a
        have hy := a.head
        unfold P1 at hy
        refine ⟨by rw [List.length_cons]; omega, by omega, by omega, by omega⟩
      · rw [if_neg h3]
        right; left
        simp only [if_pos (show y.f1 + 1 = c + (m : Int) ∧ y.f2 + (c + (m : Int)) - y.f0 = g + (m : Int) from ⟨hl, hm⟩)]
        exact ⟨_, _, rfl, hr, by show c + (m : Int) + 1 = _; omega, by show y.f2 + (c + ((m + 1 : Nat) : Int)) - y.f0 = _; omega⟩
    · unfold takeR
      rw [if_pos (by omega)]
      right; right
      exact ⟨hl, by omega, by omega, hc3⟩

end Go.Proofs.Ytldcgkkbmnahiaa.Px
