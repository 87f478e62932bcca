/- Contracts: lists of numbers, where a line begins -/
import Derived.Test.YtbeblgjibfoanaaU4
namespace Go.Proofs.Ytbeblgjibfoanaa.Am
set_option linter.unusedSimpArgs false
set_option linter.unusedVariables false
set_option maxRecDepth 100000
set_option maxHeartbeats 4000000
open Go Go.RowKit
def ints (xs : List Int) (i : Nat) : Int := xs.getD i 0
theorem ints_get {xs : List Int} {i : Nat} (h : i < xs.length) : xs[i]? = some (ints xs i) := by simp [ints, List.getD_eq_getElem?_getD, List.getElem?_eq_getElem h]
theorem same_take {xs ys : List Int} {k : Nat} (hl : xs.length = ys.length) (hk : k < xs.length) (h : xs.take k = ys.take k) (e : ints xs k = ints ys k) : xs.take (k + 1) = ys.take (k + 1) := by
  rw [List.take_add_one, List.take_add_one, h, ints_get hk, ints_get (hl ▸ hk), e]
theorem Same_C (F : Mem) (v u : Value) (xs ys : List Int) (hv : RInts F v xs) (hu : RInts F u ys) : C0 Try.prog 17 [v, u] F (.bool (decide (xs = ys))) := by
  rcases hv with ⟨b, off, c, rfl, hlen, hr⟩ | ⟨rfl, rfl⟩ <;> rcases hu with ⟨b2, off2, c2, rfl, hlen2, hr2⟩ | ⟨rfl, rfl⟩
  · refine C.go hT Try.func17 Try.ntmps17 ?_
    (repeat (first | refine st ?_ | refine nl ?_ | refine sq ?_ | refine rg ?_ | refine bl ?_ | refine sk ?_ | refine bk ?_ | refine bx ?_ | refine al ?_ | refine so ?_ | refine mk ?_ | refine ex ?_ | refine lb ?_ | refine cT ?_ | refine cF ?_ | refine sg ?_ | refine sp ?_ | refine su ?_))
    refine cN (fun h0 => ?_) (fun h0 => ?_)
    · (repeat (first | refine st ?_ | refine nl ?_ | refine sq ?_ | refine rg ?_ | refine bl ?_ | refine sk ?_ | refine bk ?_ | refine bx ?_ | refine al ?_ | refine so ?_ | refine mk ?_ | refine ex ?_ | refine lb ?_ | refine cT ?_ | refine cF ?_ | refine sg ?_ | refine sp ?_ | refine su ?_))
      refine rt ⟨?_, rfl⟩
      have : xs ≠ ys := fun e => h0 (by rw [e])
      simp [this]
    · have hl : xs.length = ys.length := by omega
      (repeat (first | refine st ?_ | refine nl ?_ | refine sq ?_ | refine rg ?_ | refine bl ?_ | refine sk ?_ | refine bk ?_ | refine bx ?_ | refine al ?_ | refine so ?_ | refine mk ?_ | refine ex ?_ | refine lb ?_ | refine cT ?_ | refine cF ?_ | refine sg ?_ | refine sp ?_ | refine su ?_))
      refine J.loopS (α := Nat) (fun k => k ≤ xs.length ∧ xs.take k = ys.take k) (fun k => [(0, .slice (some ⟨b, off, none⟩) xs.length c), (1, .slice (some ⟨b2, off2, none⟩) ys.length c2), (5, .int .i64 k)]) (fun _ => []) (fun k => xs.length - k) 0 ⟨Nat.zero_le _, rfl⟩ ⟨rfl, rfl, rfl, trivial⟩ trivial ?_
      rintro k ⟨hk, hok⟩
      (repeat (first | refine st ?_ | refine nl ?_ | refine sq ?_ | refine rg ?_ | refine bl ?_ | refine sk ?_ | refine bk ?_ | refine bx ?_ | refine al ?_ | refine so ?_ | refine mk ?_ | refine ex ?_ | refine lb ?_ | refine cT ?_ | refine cF ?_ | refine sg ?_ | refine sp ?_ | refine su ?_))
      refine cD (fun h2 => ?_) (fun h2 => ?_)
      · have hkl : k < xs.length := by omega
        have r1 : look F ⟨b, off + k * 1, none⟩ = some (.int .i64 (ints xs k)) := by rw [Nat.mul_one]; exact hr k _ (ints_get hkl)
        have r2 : look F ⟨b2, off2 + k * 1, none⟩ = some (.int .i64 (ints ys k)) := by rw [Nat.mul_one]; exact hr2 k _ (ints_get (by omega))
        have hs := same_take hl hkl hok
        have hne : ints xs k ≠ ints ys k → xs ≠ ys := fun h e => h (by rw [e])
        generalize ints xs k = x at *
        generalize ints ys k = y at *
        (repeat (first | refine st ?_ | refine nl ?_ | refine sq ?_ | refine rg ?_ | refine bl ?_ | refine sk ?_ | refine bk ?_ | refine bx ?_ | refine al ?_ | refine so ?_ | refine mk ?_ | refine ex ?_ | refine lb ?_ | refine cT ?_ | refine cF ?_ | refine sg ?_ | refine sp ?_ | refine su ?_))
        refine dr 9 [] [0, 1, 2, 3, 4, 5, 6, 7, 8] ?_
        (repeat (first | refine dt ?_ | refine dg ?_ | refine dp ?_ | refine du ?_ | refine dq ?_ | refine dqg ?_ | refine dqp ?_ | refine dqu ?_ | refine dso ?_ | refine dal ?_ | refine dmk ?_ | refine dbx ?_ | refine dv ?_ | refine dpe ?_ | refine dn ?_ | refine st ?_ | refine nl ?_ | refine sq ?_ | refine rg ?_ | refine bl ?_ | refine sk ?_ | refine bk ?_ | refine bx ?_ | refine al ?_ | refine so ?_ | refine mk ?_ | refine ex ?_ | refine lb ?_ | refine cT ?_ | refine cF ?_ | refine sg ?_ | refine sp ?_ | refine su ?_))
        refine cN (fun h3 => ?_) (fun h3 => ?_)
        · (repeat (first | refine st ?_ | refine nl ?_ | refine sq ?_ | refine rg ?_ | refine bl ?_ | refine sk ?_ | refine bk ?_ | refine bx ?_ | refine al ?_ | refine so ?_ | refine mk ?_ | refine ex ?_ | refine lb ?_ | refine cT ?_ | refine cF ?_ | refine sg ?_ | refine sp ?_ | refine su ?_))
          refine rt ⟨?_, rfl⟩
          simp [hne h3]
        · (repeat (first | refine st ?_ | refine nl ?_ | refine sq ?_ | refine rg ?_ | refine bl ?_ | refine sk ?_ | refine bk ?_ | refine bx ?_ | refine al ?_ | refine so ?_ | refine mk ?_ | refine ex ?_ | refine lb ?_ | refine cT ?_ | refine cF ?_ | refine sg ?_ | refine sp ?_ | refine su ?_))
          refine J.back ⟨k + 1, by omega, ⟨hkl, hs h3⟩, rfl, ⟨rfl, rfl, rfl, trivial⟩, trivial⟩
      · have hkl : k = xs.length := by omega
        subst hkl
        rw [List.take_length, hl, List.take_length] at hok
        (repeat (first | refine st ?_ | refine nl ?_ | refine sq ?_ | refine rg ?_ | refine bl ?_ | refine sk ?_ | refine bk ?_ | refine bx ?_ | refine al ?_ | refine so ?_ | refine mk ?_ | refine ex ?_ | refine lb ?_ | refine cT ?_ | refine cF ?_ | refine sg ?_ | refine sp ?_ | refine su ?_))
        refine rt ⟨?_, rfl⟩
        simp [hok]
  · refine C.go hT Try.func17 Try.ntmps17 ?_
    (repeat (first | refine st ?_ | refine nl ?_ | refine sq ?_ | refine rg ?_ | refine bl ?_ | refine sk ?_ | refine bk ?_ | refine bx ?_ | refine al ?_ | refine so ?_ | refine mk ?_ | refine ex ?_ | refine lb ?_ | refine cT ?_ | refine cF ?_ | refine sg ?_ | refine sp ?_ | refine su ?_))
    refine cN (fun h0 => ?_) (fun h0 => ?_)
    · (repeat (first | refine st ?_ | refine nl ?_ | refine sq ?_ | refine rg ?_ | refine bl ?_ | refine sk ?_ | refine bk ?_ | refine bx ?_ | refine al ?_ | refine so ?_ | refine mk ?_ | refine ex ?_ | refine lb ?_ | refine cT ?_ | refine cF ?_ | refine sg ?_ | refine sp ?_ | refine su ?_))
      refine rt ⟨?_, rfl⟩
      have : xs ≠ [] := fun e => h0 (by rw [e]; rfl)
      simp [this]
    · have : xs = [] := List.eq_nil_of_length_eq_zero (by omega)
      subst this
      (repeat (first | refine st ?_ | refine nl ?_ | refine sq ?_ | refine rg ?_ | refine bl ?_ | refine sk ?_ | refine bk ?_ | refine bx ?_ | refine al ?_ | refine so ?_ | refine mk ?_ | refine ex ?_ | refine lb ?_ | refine cT ?_ | refine cF ?_ | refine sg ?_ | refine sp ?_ | refine su ?_))
      refine J.loopS (α := Unit) (fun _ => True) (fun _ => [(0, .slice (some ⟨b, off, none⟩) 0 c), (5, .int .i64 0)]) (fun _ => []) (fun _ => 0) () trivial ⟨rfl, rfl, trivial⟩ trivial ?_
      rintro _ _
      (repeat (first | refine st ?_ | refine nl ?_ | refine sq ?_ | refine rg ?_ | refine bl ?_ | refine sk ?_ | refine bk ?_ | refine bx ?_ | refine al ?_ | refine so ?_ | refine mk ?_ | refine ex ?_ | refine lb ?_ | refine cT ?_ | refine cF ?_ | refine sg ?_ | refine sp ?_ | refine su ?_))
      exact rt ⟨rfl, rfl⟩
  · refine C.go hT Try.func17 Try.ntmps17 ?_
    (repeat (first | refine st ?_ | refine nl ?_ | refine sq ?_ | refine rg ?_ | refine bl ?_ | refine sk ?_ | refine bk ?_ | refine bx ?_ | refine al ?_ | refine so ?_ | refine mk ?_ | refine ex ?_ | refine lb ?_ | refine cT ?_ | refine cF ?_ | refine sg ?_ | refine sp ?_ | refine su ?_))
    refine cN (fun h0 => ?_) (fun h0 => ?_)
    · (repeat (first | refine st ?_ | refine nl ?_ | refine sq ?_ | refine rg ?_ | refine bl ?_ | refine sk ?_ | refine bk ?_ | refine bx ?_ | refine al ?_ | refine so ?_ | refine mk ?_ | refine ex ?_ | refine lb ?_ | refine cT ?_ | refine cF ?_ | refine sg ?_ | refine sp ?_ | refine su ?_))
      refine rt ⟨?_, rfl⟩
      have : ys ≠ [] := fun e => h0 (by rw [e]; rfl)
      simp [Ne.symm this]
    · have : ys = [] := List.eq_nil_of_length_eq_zero (by omega)
      subst this
      (repeat (first | refine st ?_ | refine nl ?_ | refine sq ?_ | refine rg ?_ | refine bl ?_ | refine sk ?_ | refine bk ?_ | refine bx ?_ | refine al ?_ | refine so ?_ | refine mk ?_ | refine ex ?_ | refine lb ?_ | refine cT ?_ | refine cF ?_ | refine sg ?_ | refine sp ?_ | refine su ?_))
      refine J.loopS (α := Unit) (fun _ => True) (fun _ => [(0, .slice none 0 0), (5, .int .i64 0)]) (fun _ => []) (fun _ => 0) () trivial ⟨rfl, rfl, trivial⟩ trivial ?_
      rintro _ _
      (repeat (first | refine st ?_ | refine nl ?_ | refine sq ?_ | refine rg ?_ | refine bl ?_ | refine sk ?_ | refine bk ?_ | refine bx ?_ | refine al ?_ | refine so ?_ | refine mk ?_ | refine ex ?_ | refine lb ?_ | refine cT ?_ | refine cF ?_ | refine sg ?_ | refine sp ?_ | refine su ?_))
      exact rt ⟨rfl, rfl⟩
  · refine C.go hT Try.func17 Try.ntmps17 ?_
    (repeat (first | refine st ?_ | refine nl ?_ | refine sq ?_ | refine rg ?_ | refine bl ?_ | refine sk ?_ | refine bk ?_ | refine bx ?_ | refine al ?_ | refine so ?_ | refine mk ?_ | refine ex ?_ | refine lb ?_ | refine cT ?_ | refine cF ?_ | refine sg ?_ | refine sp ?_ | refine su ?_))
    refine J.loopS (α := Unit) (fun _ => True) (fun _ => [(0, .slice none 0 0), (5, .int .i64 0)]) (fun _ => []) (fun _ => 0) () trivial ⟨rfl, rfl, trivial⟩ trivial ?_
    rintro _ _
    (repeat (first | refine st ?_ | refine nl ?_ | refine sq ?_ | refine rg ?_ | refine bl ?_ | refine sk ?_ | refine bk ?_ | refine bx ?_ | refine al ?_ | refine so ?_ | refine mk ?_ | refine ex ?_ | refine lb ?_ | refine cT ?_ | refine cF ?_ | refine sg ?_ | refine sp ?_ | refine su ?_))
    exact rt ⟨rfl, rfl⟩
/-- where a line that goes on behind a begins, if it ends at b -/
def skipB (x : Item) : Bool := decide (x.kind = 2) || (decide (x.kind = 3) && decide (-10000 < x.cost))
def beginAt (l : List Item) (b : Nat) : Nat → Nat → Nat
  | 0, i => i
  | d + 1, i => if i < b then (if skipB (at_ l i) = true then beginAt l b d (i + 1) else i) else i
theorem RBegin_C (F : Mem) (v : Value) (l : List Item) (a b : Int) (hv : RItems F v l) (ha : -1 ≤ a) (hb : a < b) (hbl : b < l.length) : C0 Try.prog 62 [v, .int .i64 a, .int .i64 b] F (.int .i64 (beginAt l b.toNat (b.toNat - (a + 1).toNat) (a + 1).toNat)) := by
  obtain ⟨n, rfl⟩ := Int.eq_ofNat_of_zero_le (show (0 : Int) ≤ b by omega)
  obtain ⟨m, hm⟩ := Int.eq_ofNat_of_zero_le (show (0 : Int) ≤ a + 1 by omega)
  have hmn : m ≤ n := by omega
  simp only [Int.toNat_natCast, hm]
  rcases hv.cases with ⟨vb, off, c, rfl, hlen, hr⟩ | ⟨rfl, rfl⟩
  · refine C.go hT Try.func62 Try.ntmps62 ?_
    (repeat (first | refine st ?_ | refine nl ?_ | refine sq ?_ | refine rg ?_ | refine bl ?_ | refine sk ?_ | refine bk ?_ | refine bx ?_ | refine al ?_ | refine so ?_ | refine mk ?_ | refine ex ?_ | refine lb ?_ | refine cT ?_ | refine cF ?_ | refine sg ?_ | refine sp ?_ | refine su ?_))
    rw [hm]
    refine J.loopS (α := Nat) (fun k => k ≤ n ∧ beginAt l n (n - k) k = beginAt l n (n - m) m) (fun k => [(0, .slice (some ⟨vb, off, none⟩) l.length c), (2, .int .i64 n), (7, .int .i64 k)]) (fun _ => []) (fun k => n - k) m ⟨hmn, rfl⟩ ⟨rfl, rfl, rfl, trivial⟩ trivial ?_
    rintro k ⟨hk, hok⟩
    (repeat (first | refine st ?_ | refine nl ?_ | refine sq ?_ | refine rg ?_ | refine bl ?_ | refine sk ?_ | refine bk ?_ | refine bx ?_ | refine al ?_ | refine so ?_ | refine mk ?_ | refine ex ?_ | refine lb ?_ | refine cT ?_ | refine cF ?_ | refine sg ?_ | refine sp ?_ | refine su ?_))
    refine gD (fun h2 => ?_) (fun h2 => ?_)
    · have hkn : k < n := by omega
      obtain ⟨r0, _, _, _, r4, _, _⟩ := hr k (by omega)
      have hst : beginAt l n (n - k) k = if skipB (at_ l k) = true then beginAt l n (n - (k + 1)) (k + 1) else k := by
        rw [show n - k = (n - (k + 1)) + 1 from by omega]
        simp [beginAt, hkn]
      rw [hst] at hok
      clear hr hv hst
      generalize at_ l k = x at r0 r4 hok
      (repeat' (first | refine st ?_ | refine nl ?_ | refine sq ?_ | refine rg ?_ | refine bl ?_ | refine sk ?_ | refine bk ?_ | refine bx ?_ | refine al ?_ | refine so ?_ | refine mk ?_ | refine ex ?_ | refine lb ?_ | refine cT ?_ | refine cF ?_ | refine sg ?_ | refine sp ?_ | refine su ?_ | refine gD (fun _ => ?_) (fun _ => ?_) | refine gN (fun _ => ?_) (fun _ => ?_) | refine cD (fun _ => ?_) (fun _ => ?_) | refine cN (fun _ => ?_) (fun _ => ?_)))
      all_goals first
        | (refine J.back ⟨k + 1, by omega, ⟨by omega, ?_⟩, rfl, ⟨rfl, rfl, rfl, trivial⟩, trivial⟩
           rw [← hok, if_pos (by simp [skipB, *])])
        | (refine rt ⟨?_, rfl⟩
           rw [← hok, if_neg (by simp [skipB, *])])
    · have hkn : k = n := by omega
      subst hkn
      (repeat (first | refine st ?_ | refine nl ?_ | refine sq ?_ | refine rg ?_ | refine bl ?_ | refine sk ?_ | refine bk ?_ | refine bx ?_ | refine al ?_ | refine so ?_ | refine mk ?_ | refine ex ?_ | refine lb ?_ | refine cT ?_ | refine cF ?_ | refine sg ?_ | refine sp ?_ | refine su ?_))
      refine rt ⟨?_, rfl⟩
      rw [← hok]
      simp [beginAt]
  · simp at hbl; omega

end Go.Proofs.Ytbeblgjibfoanaa.Am
