/- Rules for walking Go functions with memory told by tags (A22). -/
import Derived.Test.YtbeblgjibfoanaaA21
namespace Go.Proofs.Ytbeblgjibfoanaa.Am
set_option linter.unusedSimpArgs false
set_option linter.unusedVariables false
open Go Go.RowKit
/-! Rows of numbers, told by a function; several makes in any order. -/
def gI (T : Nat → Int) (n : Nat) : List Value := (List.range n).map fun k => .int .i64 (T k)
def setI (T : Nat → Int) (i : Nat) (v : Int) : Nat → Int := fun k => if k = i then v else T k
theorem gI_length (T : Nat → Int) (n : Nat) : (gI T n).length = n := by simp [gI]
theorem gI_get {T : Nat → Int} {n i : Nat} (h : i < n) : (gI T n)[i]? = some (.int .i64 (T i)) := by simp [gI, h]
theorem gI_plain (T : Nat → Int) (n : Nat) : ∀ v ∈ gI T n, plain1 v = true := by
  intro v hv
  obtain ⟨k, _, rfl⟩ := List.mem_map.1 hv
  rfl
theorem gI_put (T : Nat → Int) (n i : Nat) (v : Int) : putL (gI T n) i [.int .i64 v] = gI (setI T i v) n := by
  simp only [putL]
  apply List.ext_getElem?
  intro k
  by_cases hk : k < n
  · rw [gI_get hk]
    by_cases h : k = i
    · subst h
      rw [List.getElem?_set]
      simp [gI_length, hk, setI]
    · rw [List.getElem?_set]
      simp only [Ne.symm h, if_false, gI_get hk, setI, h]
  · rw [List.getElem?_eq_none (by simp [gI_length]; omega), List.getElem?_eq_none (by simp [gI_length]; omega)]
theorem zer_gI {ti : Ty} (h : ti.zero = [.int .i64 0]) (n : Nat) : zer ti n = gI (fun _ => 0) n := by
  rw [zer_one h]
  simp [gI, List.map_const']
section
variable {P : Program} {N : Nat} {D : List Nat} {Θ : Tab} {F : Mem} {K : Own} {L : Slots} {T : Pst} (hθ : tabOk P Θ = true)
include hθ
theorem SD.loadG {t : TypeId} {x : Operand} {ti : Ty} {b off n : Nat} {G : Nat → Int} {r : Row} (ht : Θ.lookup t = some ti) (hag : aggB ti.k = false) (hx : evO L x = some (.pointer (some ⟨b, off, some 0⟩))) (hr : K.lookup b = some r) (hcs : r.cs = gI G n) (hlt : off < n) : SD P F K L (.load t x) (.int .i64 (G off)) := by
  refine SD.load hθ ht hag hx ?_
  simp only [rdA, hr, Option.bind_some, cellAt, hcs, gI_get hlt]
theorem Go1.storeG {o : Oper} {ty : TypeId} {x y : Operand} {t off n : Nat} {z : Int} {G : Nat → Int} {r : Row} {ti : Ty} (ho : o.op = .store ty x y) (hd : o.dst = none) (hi : Θ.lookup ty = some ti)
    (hx : evO L x = some (.pointer (some ⟨t, off, some 0⟩))) (hy : evO L y = some (.int .i64 z)) (hr : K.lookup t = some r) (hcs : r.cs = gI G n) (hsz : ti.size = 1) (hle : off < n)
    (h : T F L (setK t { r with cs := gI (setI G off z) n } K)) : Go1 P N D F L K o T := by
  refine Go1.store hθ ho hd hi hx hy rfl hr (by rw [hsz]; rfl) (by rw [hcs, gI_length]; exact hle) ?_
  have e : putL r.cs off (cellsL (.int .i64 z)) = gI (setI G off z) n := by rw [hcs]; exact gI_put G n off z
  rw [e]
  have e2 : (r.flat && (cellsL (.int .i64 z)).all plain1) = r.flat := by simp [cellsL, plain1, plain0]
  rw [e2]
  exact h
end
section
variable {X : Cx} {F F0 : Mem} {L : Slots} {K K0 : Own} {s : List SI} {ops : Array Oper} {o : Oper} {l : List Oper} {b : Nat} {D : List Nat} {p : List (Nat × Bool)} {listed : Array Bool} {Θ : Tab}
theorem soG {ty : TypeId} {x y : Operand} {t off n : Nat} {z : Int} {G : Nat → Int} {r : Row} {ti : Ty} (hk : JL X ops l s F L (setK t { r with cs := gI (setI G off z) n } K))
    (hg : o.guard = none := by rfl) (ho : o.op = .store ty x y := by rfl) (hd : o.dst = none := by rfl) (hθ : tabOk X.P Θ = true := by exact hT) (hi : Θ.lookup ty = some ti := by rfl)
    (hx : evO L x = some (.pointer (some ⟨t, off, some 0⟩)) := by rfl) (hy : evO L y = some (.int .i64 z) := by rfl) (hr : K.lookup t = some r := by rfl) (hcs : r.cs = gI G n := by rfl) (hsz : ti.size = 1 := by rfl) (hle : off < n := by (try dsimp only); omega) : JL X ops (o :: l) s F L K :=
  JL.step hg (Go1.storeG hθ ho hd hi hx hy hr hcs hsz hle hk)
theorem dsoG {i : Nat} {o : Oper} {ty : TypeId} {x y : Operand} {t off n : Nat} {z : Int} {G : Nat → Int} {r : Row} {ti : Ty} (hk : JD X l b F0 K0 D p (listed.setIfInBounds i true) s F L (setK t { r with cs := gI (setI G off z) n } K))
    (ho' : l[i]? = some o := by rfl) (hg : o.guard = none := by rfl) (ho : o.op = .store ty x y := by rfl) (hd : o.dst = none := by rfl) (hθ : tabOk X.P Θ = true := by exact hT) (hi : Θ.lookup ty = some ti := by rfl)
    (hx : evO L x = some (.pointer (some ⟨t, off, some 0⟩)) := by rfl) (hy : evO L y = some (.int .i64 z) := by rfl) (hr : K.lookup t = some r := by rfl) (hcs : r.cs = gI G n := by rfl) (hsz : ti.size = 1 := by rfl)
    (hle : off < n := by (try dsimp only); omega) (hkp : (listed.setIfInBounds i true).getD b false = true := by rfl) (hi9 : i < 10000 := by exact Nat.le_of_ble_eq_true rfl) : JD X l b F0 K0 D ((i, false) :: p) listed s F L K :=
  JD.op hi9 ho' hg (Go1.storeG hθ ho hd hi hx hy hr hcs hsz hle ⟨.inl hkp, hk⟩)
/-- several makes of one type and length, in any order -/
theorem dmks {c : Nat} {ms : List Nat} {ty el : TypeId} {ti tj : Ty} {q : Int} (eD : Nat → Nat) {L0 : Slots}
    (hk : JD X l b F [] D p (ms.foldl (fun a m => a.setIfInBounds m true) listed) s F ((ms.map fun x => (eD x, .slice (some ⟨eD x, 0, some 0⟩) q.toNat q.toNat)) ++ L0) (ms.map fun x => (eD x, { elem := el, cs := zer tj q.toNat, room := q.toNat * tj.size, flat := true })))
    (hop : ∀ m ∈ ms, ∃ o tm kl, l[m]? = some o ∧ o.guard = none ∧ o.op = .makeSlice ty (.tmp tm) (.tmp tm) ∧ o.dst = some (eD m) ∧ L.lookup tm = some (.int kl q) ∧ (ms.map eD).contains tm = false)
    (hN : ∀ m ∈ ms, eD m < X.N) (hL : ∀ m ∈ ms, ntL (eD m) L = true) (hD : ∀ m ∈ ms, D.contains (eD m) = false)
    (hL0 : LSub L0 L) (hq : 0 ≤ q) (hq2 : q.toNat * tj.bytes ≤ 281474976710656) (hq3 : q ≤ 9223372036854775807) (hnd : (ms.map eD).Nodup) (hc : 1000000 ≤ c := by exact Nat.le_of_ble_eq_true rfl) (hms : decM 20 (c - 1000000) = ms := by rfl) (hlen : ms.length ≤ 20 := by exact Nat.le_of_ble_eq_true rfl)
    (hd0 : (L0.all fun x => !(ms.map eD).contains x.1) = true := by rfl) (hθ : tabOk X.P Θ = true := by exact hT) (hi : Θ.lookup ty = some ti := by rfl) (hki : ti.k = .slice el := by rfl) (hj : Θ.lookup el = some tj := by rfl) (hz0 : tj.zero.length = tj.size := by rfl) (hz1 : 0 < tj.size := by exact Nat.le_of_ble_eq_true rfl) :
    JD X l b F [] D ((c, false) :: p) listed s F L [] := by
  refine JD.many eD (fun x => .slice (some ⟨eD x, 0, some 0⟩) q.toNat q.toNat) (fun x => { elem := el, cs := zer tj q.toNat, room := q.toNat * tj.size, flat := true }) hc hms hnd hlen ?_ hL0 hd0 hk
  intro m hm C hC hmC
  obtain ⟨o, tm, kl, h1, h2, h3, h4, h5, h6⟩ := hop m hm
  refine ⟨o, h1, h2, fun T hT => ?_⟩
  have hinj : ∀ x ∈ ms, eD x = eD m → x = m := by
    intro x hx he
    have aux : ∀ q : List Nat, (q.map eD).Nodup → x ∈ q → m ∈ q → x = m := by
      intro q
      induction q with
      | nil => intro _ h; cases h
      | cons y q ih =>
        intro hn hx hm
        simp only [List.map_cons, List.nodup_cons] at hn
        rcases List.mem_cons.1 hx with h1 | hx <;> rcases List.mem_cons.1 hm with h2 | hm
        · rw [h1, h2]
        · exact absurd (List.mem_map.2 ⟨m, hm, by rw [← he, h1]⟩) hn.1
        · exact absurd (List.mem_map.2 ⟨x, hx, by rw [he, h2]⟩) hn.1
        · exact ih hn.2 hx hm
    exact aux ms hnd hx hm
  have hne : ∀ x ∈ C, eD x ≠ eD m := fun x hx he => hmC (hinj x (hC x hx) he ▸ hx)
  have hlk : ((C.map fun x => (eD x, (.slice (some ⟨eD x, 0, some 0⟩) q.toNat q.toNat : Value))) ++ L).lookup tm = some (.int kl q) := by
    rw [lookup_append_right]
    · exact h5
    · intro hx
      obtain ⟨y, hy, e⟩ := List.mem_map.1 hx
      obtain ⟨x, hx2, rfl⟩ := List.mem_map.1 hy
      simp only [List.contains_eq_mem, decide_eq_false_iff_not] at h6
      exact h6 (List.mem_map.2 ⟨x, hC x hx2, e⟩)
  refine Go1.make hθ h3 h4 (hN m hm) hi hki hj (l := .tmp tm) (c := .tmp tm) hlk hlk (by omega) (by omega) (Nat.le_refl _) hq2 (by omega) hz0 hz1 ?_ ?_ (hD m hm) hT
  · unfold ntL
    rw [List.all_append, Bool.and_eq_true]
    refine ⟨List.all_eq_true.2 fun x hx => ?_, hL m hm⟩
    obtain ⟨y, hy, rfl⟩ := List.mem_map.1 hx
    simp [ntV, nt2, nt1, nt0, hne y hy]
  · unfold ntK
    refine List.all_eq_true.2 fun x hx => ?_
    obtain ⟨y, hy, rfl⟩ := List.mem_map.1 hx
    simp [hne y hy]
/-- a row of numbers, made by the call itself -/
def rI (T : Nat → Int) (n : Nat) : Row := { elem := 3, cs := gI T n, room := n, flat := true }
/-- several slices of numbers -/
theorem dmksI {c : Nat} {ms : List Nat} {ty : TypeId} {ti tj : Ty} {q : Int} (n : Nat) (eD : Nat → Nat) {L0 : Slots}
    (hk : JD X l b F [] D p (ms.foldl (fun a m => a.setIfInBounds m true) listed) s F ((ms.map fun x => (eD x, .slice (some ⟨eD x, 0, some 0⟩) n n)) ++ L0) (ms.map fun x => (eD x, rI (fun _ => 0) n)))
    (hop : ∀ m ∈ ms, ∃ o tm kl, l[m]? = some o ∧ o.guard = none ∧ o.op = .makeSlice ty (.tmp tm) (.tmp tm) ∧ o.dst = some (eD m) ∧ L.lookup tm = some (.int kl q) ∧ (ms.map eD).contains tm = false)
    (hN : ∀ m ∈ ms, eD m < X.N) (hL : ∀ m ∈ ms, ntL (eD m) L = true) (hD : ∀ m ∈ ms, D.contains (eD m) = false)
    (hL0 : LSub L0 L) (hq : q = n) (hq2 : n * 8 ≤ 281474976710656) (hnd : (ms.map eD).Nodup) (hc : 1000000 ≤ c := by exact Nat.le_of_ble_eq_true rfl) (hms : decM 20 (c - 1000000) = ms := by rfl) (hlen : ms.length ≤ 20 := by exact Nat.le_of_ble_eq_true rfl)
    (hd0 : (L0.all fun x => !(ms.map eD).contains x.1) = true := by rfl) (hθ : tabOk X.P Θ = true := by exact hT) (hi : Θ.lookup ty = some ti := by rfl) (hki : ti.k = .slice 3 := by rfl) (hj : Θ.lookup 3 = some tj := by rfl) (hz : tj.zero = [.int .i64 0] := by rfl) (hz0 : tj.size = 1 := by rfl) (hb8 : tj.bytes = 8 := by rfl) :
    JD X l b F [] D ((c, false) :: p) listed s F L [] := by
  have e : q.toNat = n := by omega
  have e2 : ∀ x, zer tj x = gI (fun _ => 0) x := fun x => zer_gI hz x
  refine dmks (ms := ms) (tj := tj) (q := q) eD (L0 := L0) ?_ hop hN hL hD hL0 (by omega) (by rw [e, hb8]; exact hq2) (by omega) hnd hc hms hlen hd0 hθ hi hki hj (by rw [hz, hz0]; rfl) (by omega)
  rw [e]
  simp only [e2, hz0, Nat.mul_one]
  exact hk

end
end Go.Proofs.Ytbeblgjibfoanaa.Am
