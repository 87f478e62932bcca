/- Rules for walking Go functions, and contracts proved by them (N17, T19, P6, T22, N18, T23, T24). -/
import Derived.Test.YtnkddjdmpnghmaaY4
import Derived.Below
import Derived.Laws.OwnMore
import Derived.KernelRfl
import Derived.Laws.Bits
import Derived.Laws.Strings
import Derived.Laws.Entries
import Derived.IntWalk
import Derived.Laws.Cells
import Derived.Laws.Append
import Derived.Laws.BytesString
import Derived.Laws.BytesArg
import Derived.Tactics
import Derived.Orders
import Derived.OrdersHeld
import Derived.Test.YtnkddjdmpnghmaaChecked
import Derived.Scope
import Derived.Laws.BitsLemmas
import Derived.Laws.Small
import Derived.Laws.Concat
import Derived.ChangeKeysEq
import Derived.ChangeArms
import Derived.DataReads
import Derived.WideShapes
import Derived.SizedLaws
import Derived.OpenShut
namespace Go.Proofs.Ytnkddjdmpnghmaa.Am
set_option linter.unusedSimpArgs false
set_option linter.unusedVariables false
open Go Go.RowKit
section
variable {X : Cx} {F F0 : Mem} {L : Slots} {K K0 : Own} {s : List SI} {l : List Oper} {b : Nat} {D : List Nat} {p : List (Nat × Bool)} {listed : Array Bool}
theorem Go1.append0 {P : Program} {N : Nat} {o : Oper} {Θ : Tab} {ty ty' el : TypeId} {sx x : Operand} {d n c u : Nat} {ti ti' tj : Ty} {xv : Value} {Φ : Mem → Slots → Own → Prop} (hk : Φ F ((d, .slice (some ⟨u, 0, some 0⟩) n c) :: L) K)
    (ho : o.op = .call ⟨.builtin .append, #[sx, x], #[ty, ty']⟩) (hd : o.dst = some d) (hN : d < N) (hθ : tabOk P Θ = true)
    (hi : Θ.lookup ty = some ti) (hki : ti.k = .slice el) (hi' : Θ.lookup ty' = some ti') (hk' : slB ti'.k = true) (hj : Θ.lookup el = some tj)
    (hs : evO L sx = some (.slice (some ⟨u, 0, some 0⟩) n c)) (hx : evO L x = some xv) (happ : App P F K tj.size xv 0 []) (hnc : n ≤ c) : Go1 P N D F L K o Φ := by
  intro ι a w hF hS
  have tye := tab_ty hθ hj
  obtain ⟨dd, hdd, hkd⟩ := (tab_ty hθ hi).und
  rw [hki] at hkd
  cases dd <;> try (simp [kindB] at hkd; done)
  simp only [kindB, beq_iff_eq] at hkd
  subst hkd
  rename_i el
  obtain ⟨d', hdd', hkd'⟩ := (tab_ty hθ hi').und
  have hd' : ∀ k, d' ≠ .int k := by
    intro k e
    subst e
    cases hq : ti'.k <;> rw [hq] at hk' hkd' <;> first | (simp [slB] at hk'; done) | simp [kindB] at hkd'
  have hlen := happ.lenOf ι w
  have hc0 := happ.cells ι w hS
  have hrun := run_append_in (ty := o.type) (a := ⟨ι u, 0, none⟩) (n := n) (c := c) (xv := cV ι xv) (w' := w) hdd hdd' hd' (tye.run_size w) hlen hc0 (by omega) (by simp [storeCells])
  refine ⟨ι, w, cV ι (.slice (some ⟨u, 0, some 0⟩) n c), F, _, K, .inl ?_, by rw [hd]; exact hF.put hN _, hS, fun _ _ => rfl, hk⟩
  obtain ⟨dst, op, type, pos, after, guard⟩ := o
  simp only at ho hrun
  subst ho
  have e1 := hF.ev hs
  have e2 := hF.ev hx
  simp only [cV_slice, cA_own] at e1
  simp only [execOp, resolve, Sem.run_bind, Sem.run_pure, Result.andThen_ok, invoke, builtin]
  simp only [List.map_toArray, List.map_cons, List.map_nil, e1, e2, hrun, Result.andThen_ok, Sem.run_pure, cV_slice, cA_own, Nat.add_zero]
theorem ntK_del {t u : Nat} {K : Own} (h : ntK t K = true) : ntK t (delK u K) = true := by
  unfold ntK at *
  exact List.all_eq_true.2 fun x hx => List.all_eq_true.1 h x (List.mem_filter.1 hx).1
theorem KSub_del {u : Nat} {r : Row} {K : Own} (hnd : (K.map Prod.fst).Nodup) (hr : K.lookup u = some r) : KSub ((u, r) :: delK u K) K := by
  refine KSub.of_all ?_ ?_
  · simp only [List.map_cons, List.nodup_cons]
    refine ⟨fun hm => ?_, (List.Sublist.map _ List.filter_sublist).nodup hnd⟩
    obtain ⟨y, hy, e⟩ := List.mem_map.1 hm
    have := (List.mem_filter.1 hy).2
    simp only [bne_iff_ne, ne_eq] at this
    exact this e
  · intro y hy
    rcases List.mem_cons.1 hy with rfl | hy
    · exact hr
    · exact (KSub.refl hnd).mem y (List.mem_filter.1 hy).1
/-- a row gets another tag; what spoke of it speaks of nothing any more -/
theorem JD.retagU {d t u n c : Nat} {r : Row} (h : JD X l b F0 K0 D p listed s F ((d, .slice (some ⟨t, 0, some 0⟩) n c) :: L) ((t, r) :: delK u K)) (hr : K.lookup u = some r) (hL : ntL t L = true) (hK : ntK t K = true) (hru : (r.flat || r.cs.all (nt1 t)) = true) (hD : D.contains t = false) :
    JD X l b F0 K0 D p listed s F ((d, .slice (some ⟨u, 0, some 0⟩) n c) :: L) K := by
  intro hp hok ι0 ι a w hF hS hag hS0
  have hS1 := (hS.weak (KSub_del (tags_nodup hS) hr)).retag (ntK_del hK) hru
  have hagree : ∀ v ∈ D, upd ι t (ι u) v = ι0 v := fun v hv => (upd_ne ι (fun e => by subst e; simp at hD; exact hD hv)).trans (hag v hv)
  refine h hp hok ι0 (upd ι t (ι u)) a w ?_ hS1 hagree hS0
  refine ⟨hF.size, hF.defers, fun s v hv => ?_⟩
  rw [List.lookup_cons] at hv
  split at hv
  · rename_i e
    have e1 : s = d := by simpa using e
    subst e1
    simp only [Option.some.injEq] at hv
    subst hv
    have := hF.slot s (.slice (some ⟨u, 0, some 0⟩) n c) (by simp [List.lookup_cons])
    simpa [upd_eq] using this
  · rename_i e
    have h1 := hF.slot s v (by rw [List.lookup_cons, e]; exact hv)
    rw [cV_nt (fun v hv => upd_ne ι hv) (List.all_eq_true.1 hL _ (lookup_mem hv))]
    exact h1
theorem JD.flat {u : Nat} {r : Row} (hp : ∀ v ∈ r.cs, plain1 v = true) (h : JD X l b F0 K0 D p listed s F L ((u, { r with flat := true }) :: K)) : JD X l b F0 K0 D p listed s F L ((u, r) :: K) := fun h1 h2 ι0 ι a w hF hS hag hS0 => h h1 h2 ι0 ι a w hF (hS.flat hp) hag hS0
/-- told elements, any number, appended to an own row of nothing -/
theorem dapA0 {i : Nat} {o : Oper} {Θ : Tab} {ty ty' el : TypeId} {sx x : Operand} {d c m : Nat} {ti ti' tj : Ty} {xv : Value} {news : List Value} {r : Row} (sz t u : Nat) (happ0 : App X.P F K sz xv m news) (hpn : ∀ v ∈ news, plain1 v = true)
    (hk : ∀ cap, m ≤ cap → cap ≤ 9223372036854775807 → JD X l b F0 K0 D p (listed.setIfInBounds i true) s F ((d, .slice (some ⟨t, 0, some 0⟩) m cap) :: L) ((t, { elem := el, cs := news, room := cap * sz, fz := r.fz, flat := true }) :: delK u K))
    (ho' : l[i]? = some o := by rfl) (hg : o.guard = none := by rfl) (ho : o.op = .call ⟨.builtin .append, #[sx, x], #[ty, ty']⟩ := by rfl) (hd : o.dst = some d := by rfl) (hN : d < X.N := by exact Nat.le_of_ble_eq_true rfl) (hθ : tabOk X.P Θ = true := by exact hT)
    (hi : Θ.lookup ty = some ti := by rfl) (hki : ti.k = .slice el := by rfl) (hi' : Θ.lookup ty' = some ti' := by rfl) (hk' : slB ti'.k = true := by rfl) (hj : Θ.lookup el = some tj := by rfl) (hz0 : tj.zero.length = tj.size := by rfl) (hsz : tj.size = sz := by rfl) (hz1 : 0 < tj.size := by exact Nat.le_of_ble_eq_true rfl)
    (hs : evO L sx = some (.slice (some ⟨u, 0, some 0⟩) 0 c) := by rfl) (hx : evO L x = some xv := by rfl) (hr : K.lookup u = some r := by rfl) (hcs : r.cs = [] := by rfl)
    (hroom : r.room = c * sz := by rfl) (hel : r.elem = el := by rfl) (hcm : c ≤ 9223372036854775807 := by first | exact Nat.le_of_ble_eq_true rfl | omega)
    (h63 : m ≤ 9223372036854775807 := by omega) (hby : m * tj.bytes ≤ 140737488355328 := by (dsimp only; omega))
    (hL : ntL t L = true := by rfl) (hK : ntK t K = true := by rfl) (hD : D.contains t = false := by rfl)
    (hkp : ∀ cap, Kept b F0 K0 (listed.setIfInBounds i true) F ((t, { elem := el, cs := r.cs ++ news, room := cap * tj.size, fz := r.fz, flat := r.flat }) :: delK u K) := by intro cap; first | exact Kept.all | exact Kept.k0 | exact Kept.kY | exact Kept.kYY | exact Kept.kY3)
    (hkp0 : Kept b F0 K0 (listed.setIfInBounds i true) F K := by first | exact Kept.all | exact Kept.k0 | exact Kept.kY | exact Kept.kYY | exact Kept.kY3) (hrf : r.flat = false := by rfl) (hi9 : i < 5000 := by exact Nat.le_of_ble_eq_true rfl) : JD X l b F0 K0 D ((i, false) :: p) listed s F L K := by
  rcases Nat.eq_zero_or_pos m with hz | hz
  · subst hz
    have hnw : news = [] := List.eq_nil_of_length_eq_zero (by rw [happ0.len, Nat.zero_mul])
    subst hnw
    refine JD.op hi9 ho' hg (Go1.append0 (n := 0) (c := c) (u := u) ⟨hkp0, ?_⟩ ho hd hN hθ hi hki hi' hk' hj hs hx (by rw [hsz]; exact happ0) (Nat.zero_le _))
    refine JD.retagU ?_ hr hL hK (by rw [hcs]; simp) hD
    refine JD.flat (fun v hv => by rw [hcs] at hv; cases hv) ?_
    have h1 := hk c (Nat.zero_le _) hcm
    rw [← hel, ← hcs, ← hroom] at h1
    exact h1
  · have hall : news.all plain1 = true := List.all_eq_true.2 hpn
    have hnn : ∀ t, news.all (nt1 t) = true := fun t => List.all_eq_true.2 fun v hv => nt1_plain t (hpn v hv)
    refine dapO (m := m) (news := news) t (fun cap h1 h2 => ?_) ho' hg ho hd hN hθ hi hki hi' hk' hj hz0 hz1 hs hx hr (by rw [hsz]; exact happ0) (by rw [hsz]; exact hroom) hel (by rw [hcs]; simp) (Nat.zero_le _) hcm hz (by omega) (by rw [Nat.zero_add]; exact hby) (fun _ => hall) hL hK (hnn t) hD hkp hi9
    refine JD.flat (fun v hv => by simp only [hcs, List.nil_append] at hv; exact hpn v hv) ?_
    have := hk cap (by omega) h2
    simp only [hcs, List.nil_append, Nat.zero_add, hsz]
    exact this
end
end Go.Proofs.Ytnkddjdmpnghmaa.Am
namespace Go.Proofs.Ytnkddjdmpnghmaa.Am
set_option linter.unusedSimpArgs false
set_option linter.unusedVariables false
set_option maxRecDepth 100000
set_option maxHeartbeats 4000000
open Go Go.RowKit
theorem linesN_get {l : List Item} {ats : List Int} {w ag : Int} {n i : Nat} (h : i < n) : (linesN l ats w ag n)[i]? = some (lnAt l ats w ag i) := by
  unfold linesN
  rw [List.getElem?_map, List.getElem?_range h]
  rfl
/-- what holds of a line that is set -/
theorem ln_facts {l : List Item} {ats : List Int} {w ag : Int} (hm : mayB w ag = true) {i : Nat} (hln : lineB l (prevA ats i) (ints ats i) = true) :
    let a1 := (prevA ats i + 1).toNat; let b := (ints ats i).toNat; let t := w - mW l a1 b
    (lnAt l ats w ag i).over = decide (mZ l a1 b < -t) ∧ (¬ mZ l a1 b < -t → (lnAt l ats w ag i).width ≤ w) ∧ (mZ l a1 b < -t → (lnAt l ats w ag i).width = mW l a1 b - mZ l a1 b) ∧ (ag = 0 → 0 < mY l a1 b → ¬ mZ l a1 b < -t → (lnAt l ats w ag i).width = w) ∧ (t ≤ 0 → ¬ mZ l a1 b < -t → (lnAt l ats w ag i).width = w) ∧ (0 < t → ag = 2 → (lnAt l ats w ag i).width = w) ∧ measD l (prevA ats i) (ints ats i) = (mW l a1 b, mY l a1 b, mZ l a1 b) := by
  obtain ⟨hg, h0, h1, h2, h3⟩ := lineB_facts hln
  simp only [mayB, decide_eq_true_eq] at hm
  have hb : (ints ats i).toNat < l.length := by omega
  have hw := one_width hg (a1 := (prevA ats i + 1).toNat) hb (ag := ag) ⟨hm.1, hm.2.1⟩
  have ho := one_over hg (a1 := (prevA ats i + 1).toNat) hb (w := w) (ag := ag)
  obtain ⟨hy, hz⟩ := mYZ hg (a1 := (prevA ats i + 1).toNat) hb
  have hmw := mW_bd hg (a1 := (prevA ats i + 1).toNat) hb
  dsimp only
  unfold lnAt
  refine ⟨ho, ?_⟩
  unfold beginD at hw
  have hms : measD l (prevA ats i) (ints ats i) = (mW l (prevA ats i + 1).toNat (ints ats i).toNat, mY l (prevA ats i + 1).toNat (ints ats i).toNat, mZ l (prevA ats i + 1).toNat (ints ats i).toNat) := by rw [measD, if_pos hln]
  generalize mW l (prevA ats i + 1).toNat (ints ats i).toNat = W at *
  generalize mY l (prevA ats i + 1).toNat (ints ats i).toNat = Y at *
  generalize mZ l (prevA ats i + 1).toNat (ints ats i).toNat = Z at *
  generalize (oneD l (prevA ats i + 1).toNat (ints ats i).toNat w ag).width = wd at *
  refine ⟨fun h => ?_, fun h => ?_, fun h4 h5 h6 => ?_, fun h4 h5 => ?_, fun h4 h5 => ?_, hms⟩
  all_goals ((repeat' split at hw) <;> omega)
end Go.Proofs.Ytnkddjdmpnghmaa.Am
namespace Go.Proofs.Ytnkddjdmpnghmaa.Am
set_option linter.unusedSimpArgs false
set_option linter.unusedVariables false
set_option maxRecDepth 100000
set_option maxHeartbeats 4000000
open Go Go.RowKit
theorem foD_none {l : List Item} : ∀ d i n, i ≤ n → n < foD l d i → forceB (at_ l n) = false
  | 0, i, n, h, h2 => by simp [foD] at h2; omega
  | d + 1, i, n, h, h2 => by
    simp only [foD] at h2
    split at h2
    · omega
    · rename_i hf
      by_cases hn : n = i
      · subst hn; simpa using hf
      · exact foD_none d (i + 1) n (by omega) h2
theorem foA_none {l : List Item} {i n : Nat} (h : i ≤ n) (h2 : n < foA l i) : forceB (at_ l n) = false := foD_none _ _ _ h h2
theorem scanF_leg (l : List Item) (w : Int) (a1 : Nat) : ∀ m, (0 ≤ (scanF l w a1 m).1 → legalB l (scanF l w a1 m).1 = true) ∧ (0 ≤ (scanF l w a1 m).2 → legalB l (scanF l w a1 m).2 = true)
  | 0 => by simp [scanF]
  | m + 1 => by
    have ih := scanF_leg l w a1 m
    simp only [scanF]
    split
    · rename_i hl
      dsimp only
      constructor
      · split
        · exact fun _ => hl
        · exact ih.1
      · split
        · exact fun _ => hl
        · exact ih.2
    · exact ih
theorem nextF_legal {l : List Item} (h : goodL l = true) (w : Int) {a1 : Nat} (ha : a1 < l.length) : legalB l (nextF l w a1) = true ∧ nextF l w a1 ≤ foA l a1 := by
  have h0 := nextF_bd h w ha
  have h1 := scanF_leg l w a1 (foA l a1 + 1 - a1)
  have h2 := scanF_bd l w a1 (foA l a1 + 1 - a1)
  have h3 := foA_last h ha
  unfold nextF at h0 ⊢
  split
  · rename_i hn
    rw [if_pos hn] at h0
    exact ⟨h1.1 (by omega), by omega⟩
  · rename_i hn
    exact ⟨h1.2 (by omega), by omega⟩
/-- a way of breaks behind a: what BreaksWhole asks of it -/
def wholeB (l : List Item) (x : Par) (f : Bool) : Int → List Int → Prop
  | a, [] => a = (l.length : Int) - 1
  | a, k :: ks => (a < k ∧ k < l.length ∧ legalB l k = true) ∧ (∀ n : Nat, a < n → (n : Int) < k → forceB (at_ l n) = false) ∧ (f = true → fitsD l a k x = true) ∧ wholeB l x f k ks
theorem whole_first {l : List Item} (hg : goodL l = true) (x : Par) (w : Int) : ∀ d a1, l.length ≤ a1 + d → a1 ≤ l.length → wholeB l x false ((a1 : Int) - 1) (pathF l w d a1)
  | 0, a1, h, h2 => by
    simp only [pathF, wholeB]; omega
  | d + 1, a1, h, h2 => by
    simp only [pathF]
    split
    · rename_i ha
      have h3 := nextF_bd hg w ha
      obtain ⟨h4, h5⟩ := nextF_legal hg w ha
      obtain ⟨b, hb⟩ := Int.eq_ofNat_of_zero_le (show 0 ≤ nextF l w a1 by omega)
      rw [hb] at h3 h4 h5 ⊢
      refine ⟨⟨by omega, by omega, h4⟩, fun n hn hn2 => foA_none (i := a1) (by omega) (by omega), (fun h => by cases h), ?_⟩
      have := whole_first hg x w d (b + 1) (by omega) (by omega)
      rw [show ((b : Int) + 1).toNat = b + 1 from by omega]
      rw [show (((b + 1 : Nat) : Int) - 1) = b from by omega] at this
      exact this
    · simp only [wholeB]; omega
theorem judD_fo {l : List Item} {x : Par} {a1 b : Nat} (h : (judD l x a1 b).fits = true) : b ≤ foA l a1 := by
  unfold judD at h
  split at h <;> simp only [Bool.and_eq_true, decide_eq_true_eq] at h <;> omega
theorem whole_best {l : List Item} (hg : goodL l = true) {x : Par} (hx : x.good = true) : ∀ d a1 (c : Int), l.length ≤ a1 + d → a1 ≤ l.length → (a1 = 0 ∨ legalB l ((a1 : Int) - 1) = true) → (a1 < l.length → (tabD l x l.length a1 c.toNat).1 ≠ 0) → wholeB l x true ((a1 : Int) - 1) (pathB l x (tabD l x l.length) d a1 c)
  | 0, a1, c, h, h2, _, _ => by
    simp only [pathB, wholeB]; omega
  | d + 1, a1, c, h, h2, hl, hn => by
    simp only [pathB]
    split
    · rename_i ha
      obtain ⟨b, h3, h4, h5, h6, h7, h8⟩ := tab_next hg ha (hn ha)
      rw [h5]
      have hfo := judD_fo h7
      refine ⟨⟨by omega, by omega, h6⟩, fun n hn hn2 => foA_none (i := a1) (by omega) (by omega), fun _ => ?_, ?_⟩
      · have hline : lineB l ((a1 : Int) - 1) b = true := by
          rw [lineB_iff]
          refine ⟨by rw [hg, h6]; rfl, by omega, ?_⟩
          rcases hl with hl | hl
          · exact .inl (by omega)
          · exact .inr (by rw [hg, hl]; rfl)
        simp only [fitsD, hx, hline, Bool.true_and]
        rw [show ((a1 : Int) - 1 + 1).toNat = a1 from by omega, show ((b : Nat) : Int).toNat = b from by omega]
        exact h7
      · have := whole_best hg hx d (b + 1) (judD l x a1 b).cls (by omega) (by omega) (.inr (by rw [show (((b + 1 : Nat) : Int) - 1) = b from by omega]; exact h6)) (fun hb => h8 hb)
        rw [show (((b : Nat) : Int) + 1).toNat = b + 1 from by omega, show ((b : Nat) : Int).toNat = b from by omega]
        rw [show (((b + 1 : Nat) : Int) - 1) = b from by omega] at this
        exact this
    · simp only [wholeB]; omega
theorem whole_fst {l : List Item} (hg : goodL l = true) {x : Par} (hx : x.good = true) : wholeB l x false (-1) (firstD l x) := by
  have := whole_first hg x x.w l.length 0 (by omega) (by omega)
  rw [firstD, if_pos ⟨hg, hx⟩]
  exact this
theorem whole_bst {l : List Item} (hg : goodL l = true) {x : Par} (hx : x.good = true) (h : (bestD l x).2.2 = true) : wholeB l x true (-1) (bestD l x).1 := by
  unfold bestD at h ⊢
  split
  · rename_i hc
    exact whole_best hg hx l.length 0 1 (by omega) (by omega) (.inl rfl) (fun _ => hc.2.2)
  · rename_i hc
    rw [if_neg hc] at h
    cases h
end Go.Proofs.Ytnkddjdmpnghmaa.Am
namespace Go.Proofs.Ytnkddjdmpnghmaa.Am
set_option linter.unusedSimpArgs false
set_option linter.unusedVariables false
set_option maxRecDepth 100000
set_option maxHeartbeats 4000000
open Go Go.RowKit
def prevG (a : Int) (ks : List Int) : Nat → Int
  | 0 => a
  | j + 1 => ints ks j
theorem prevG_A (ks : List Int) (j : Nat) : prevG (-1) ks j = prevA ks j := by cases j <;> rfl
theorem prevG_cons (a k : Int) (ks : List Int) (j : Nat) : prevG a (k :: ks) (j + 1) = prevG k ks j := by cases j <;> rfl
theorem whole_line {l : List Item} (hg : goodL l = true) {x : Par} {f : Bool} : ∀ (ks : List Int) (a : Int), wholeB l x f a ks → (a = -1 ∨ legalB l a = true) → ∀ j, j < ks.length → lineB l (prevG a ks j) (ints ks j) = true ∧ (f = true → fitsD l (prevG a ks j) (ints ks j) x = true)
  | [], _, _, _, j, hj => by simp at hj
  | k :: ks, a, h, ha, 0, _ => by
    obtain ⟨⟨h1, h2, h3⟩, _, h5, _⟩ := h
    refine ⟨lineB_iff.2 ⟨by rw [hg]; exact h3, h1, ha.imp id fun e => by rw [hg]; exact e⟩, h5⟩
  | k :: ks, a, h, ha, j + 1, hj => by
    obtain ⟨⟨h1, h2, h3⟩, _, h5, h6⟩ := h
    have := whole_line hg ks k h6 (.inr h3) j (by simpa using hj)
    rw [prevG_cons]
    exact this
theorem whole_last {l : List Item} {x : Par} {f : Bool} : ∀ (ks : List Int) (a : Int), wholeB l x f a ks → (ks = [] ∧ a = (l.length : Int) - 1) ∨ (0 < ks.length ∧ ints ks (ks.length - 1) = (l.length : Int) - 1)
  | [], a, h => .inl ⟨rfl, h⟩
  | k :: ks, a, h => by
    rcases whole_last ks k h.2.2.2 with ⟨rfl, h2⟩ | ⟨h1, h2⟩
    · exact .inr ⟨by simp, h2⟩
    · refine .inr ⟨by simp, ?_⟩
      have e : (k :: ks).length - 1 = (ks.length - 1) + 1 := by rw [List.length_cons]; omega
      rw [e]
      exact h2
theorem fits_over {l : List Item} {x : Par} {a b : Int} (h : fitsD l a b x = true) : ¬ mZ l (a + 1).toNat b.toNat < -(x.w - mW l (a + 1).toNat b.toNat) := by
  simp only [fitsD, Bool.and_eq_true] at h
  have h2 := h.2
  obtain ⟨_, _, _, _, _⟩ := lineB_facts h.1.2
  rename_i hg h0 h1 _ _
  obtain ⟨hy, hz⟩ := mYZ hg (a1 := (a + 1).toNat) (b := b.toNat) (by omega)
  unfold judD at h2
  split at h2
  · simp only [Bool.and_eq_true, decide_eq_true_eq] at h2
    omega
  · omega
theorem scanF_fit {l : List Item} {w : Int} {a1 : Nat} : ∀ m, (0 ≤ (scanF l w a1 m).2 → mW l a1 (scanF l w a1 m).2.toNat - mZ l a1 (scanF l w a1 m).2.toNat ≤ w) ∧ ∀ k, k < m → legalB l ((a1 + k : Nat) : Int) = true → mW l a1 (a1 + k) - mZ l a1 (a1 + k) ≤ w → 0 ≤ (scanF l w a1 m).2
  | 0 => ⟨fun h => by simp only [scanF] at h; omega, fun k h => by omega⟩
  | m + 1 => by
    obtain ⟨ih1, ih2⟩ := scanF_fit (l := l) (w := w) (a1 := a1) m
    simp only [scanF]
    split
    · dsimp only
      split
      · rename_i hl hf
        exact ⟨fun _ => by rw [Int.toNat_natCast]; exact hf, fun k _ _ _ => by omega⟩
      · rename_i hl hf
        refine ⟨ih1, fun k hk h1 h2 => ?_⟩
        rcases Nat.lt_or_ge k m with h | h
        · exact ih2 k h h1 h2
        · obtain rfl : k = m := by omega
          exact absurd h2 hf
    · rename_i hl
      refine ⟨ih1, fun k hk h1 h2 => ?_⟩
      rcases Nat.lt_or_ge k m with h | h
      · exact ih2 k h h1 h2
      · obtain rfl : k = m := by omega
        exact absurd h1 hl
theorem nextF_over {l : List Item} (hg : goodL l = true) {w : Int} {a1 : Nat} (ha : a1 < l.length) (ho : w < mW l a1 (nextF l w a1).toNat - mZ l a1 (nextF l w a1).toNat) {k : Nat} (h1 : a1 ≤ k) (h2 : (k : Int) ≤ nextF l w a1) (hl : legalB l k = true) : ¬ mW l a1 k - mZ l a1 k ≤ w := by
  intro hf
  obtain ⟨f1, f2⟩ := scanF_fit (l := l) (w := w) (a1 := a1) (foA l a1 + 1 - a1)
  have h3 := (nextF_legal hg w ha).2
  have h4 := f2 (k - a1) (by omega) (by rw [show a1 + (k - a1) = k from by omega]; exact hl) (by rw [show a1 + (k - a1) = k from by omega]; exact hf)
  have h5 := f1 h4
  unfold nextF at ho
  rw [if_neg (by omega)] at ho
  omega
theorem path_next {l : List Item} (hg : goodL l = true) {w : Int} : ∀ d a1, ∀ j, j < (pathF l w d a1).length → (prevG ((a1 : Int) - 1) (pathF l w d a1) j + 1).toNat < l.length ∧ ints (pathF l w d a1) j = nextF l w (prevG ((a1 : Int) - 1) (pathF l w d a1) j + 1).toNat
  | 0, a1, j, h => by simp [pathF] at h
  | d + 1, a1, j, h => by
    rw [pathF] at h ⊢
    split at h
    · rename_i ha
      rw [if_pos ha]
      cases j with
      | zero =>
        have e : (prevG ((a1 : Int) - 1) (nextF l w a1 :: pathF l w d (nextF l w a1 + 1).toNat) 0 + 1).toNat = a1 := by simp [prevG]
        rw [e]
        exact ⟨ha, rfl⟩
      | succ j =>
        have h3 := nextF_bd hg w ha
        have ih := path_next hg (w := w) d (nextF l w a1 + 1).toNat j (by simpa using h)
        rw [show (((nextF l w a1 + 1).toNat : Nat) : Int) - 1 = nextF l w a1 from by omega] at ih
        rw [prevG_cons]
        exact ih
    · simp at h
/-- what Break answers, and what its lines are -/
theorem room_facts {l : List Item} {x : Par} {ag : Int} (hag : 0 ≤ ag ∧ ag ≤ 3) : (¬ (breakD l x).2 = 0 ∧ (setD l (breakD l x).1.1 x.w ag).1 = [] ∧ ¬ (setD l (breakD l x).1.1 x.w ag).2 = 0 ∧ (goodL l = false ∨ (breakD l x).2 = 1)) ∨
    ((breakD l x).2 = 0 ∧ goodL l = true ∧ mayB x.w ag = true ∧ setD l (breakD l x).1.1 x.w ag = (linesN l (breakD l x).1.1 x.w ag (breakD l x).1.1.length, 0) ∧ (∀ j, j < (breakD l x).1.1.length → lineB l (prevA (breakD l x).1.1 j) (ints (breakD l x).1.1 j) = true) ∧
      ∀ j, j < (breakD l x).1.1.length → mZ l (prevA (breakD l x).1.1 j + 1).toNat (ints (breakD l x).1.1 j).toNat < -(x.w - mW l (prevA (breakD l x).1.1 j + 1).toNat (ints (breakD l x).1.1 j).toNat) →
        (breakD l x).1.2.2 = false ∧ ∀ k : Nat, (prevA (breakD l x).1.1 j) < k → (k : Int) ≤ ints (breakD l x).1.1 j → legalB l k = true → ¬ mW l (prevA (breakD l x).1.1 j + 1).toNat k - mZ l (prevA (breakD l x).1.1 j + 1).toNat k ≤ x.w) := by
  by_cases hg : goodL l = true
  · by_cases hx : x.good = true
    · refine .inr ?_
      have hm : mayB x.w ag = true := by
        simp only [Par.good, decide_eq_true_eq] at hx
        simp only [mayB, decide_eq_true_eq]
        omega
      have key : ∀ (f : Bool) (ats : List Int), wholeB l x f (-1) ats → setD l ats x.w ag = (linesN l ats x.w ag ats.length, 0) ∧ ∀ j, j < ats.length → lineB l (prevA ats j) (ints ats j) = true ∧ (f = true → fitsD l (prevA ats j) (ints ats j) x = true) := fun f ats hw => by
        have h1 := whole_line hg ats (-1) hw (.inl rfl)
        have h2 := whole_last ats (-1) hw
        have hlen := good_len hg
        have h3 : ∀ j, j < ats.length → lineB l (prevA ats j) (ints ats j) = true ∧ (f = true → fitsD l (prevA ats j) (ints ats j) x = true) := fun j hj => by rw [← prevG_A]; exact h1 j hj
        refine ⟨?_, h3⟩
        unfold setD
        rw [if_neg (by rw [hg]; decide), if_pos]
        refine ⟨⟨hm, ?_⟩, fun j hj => (h3 j hj).1⟩
        rcases h2 with ⟨rfl, h⟩ | h
        · omega
        · exact h
      by_cases hb : (bestD l x).2.2 = true
      · have e : breakD l x = (bestD l x, 0) := by rw [breakD, if_pos hg, if_pos hx, if_pos hb]
        obtain ⟨k1, k2⟩ := key true _ (whole_bst hg hx hb)
        rw [e]
        exact ⟨rfl, hg, hm, k1, fun j hj => (k2 j hj).1, fun j hj ho => absurd ho (fits_over ((k2 j hj).2 rfl))⟩
      · have e : breakD l x = ((firstD l x, 0, false), 0) := by rw [breakD, if_pos hg, if_pos hx, if_neg hb]
        obtain ⟨k1, k2⟩ := key false _ (whole_fst hg hx)
        rw [e]
        refine ⟨rfl, hg, hm, k1, fun j hj => (k2 j hj).1, fun j hj ho => ⟨rfl, fun k hk1 hk2 hl => ?_⟩⟩
        dsimp only at hj ho hk1 hk2 ⊢
        have ef : firstD l x = pathF l x.w l.length 0 := by rw [firstD, if_pos ⟨hg, hx⟩]
        rw [ef] at hj ho hk1 hk2 ⊢
        obtain ⟨p1, p2⟩ := path_next hg (w := x.w) l.length 0 j hj
        rw [show ((0 : Nat) : Int) - 1 = -1 from rfl, prevG_A] at p1 p2
        rw [p2] at ho hk2
        exact nextF_over hg p1 (by omega) (by omega) hk2 hl
    · refine .inl ?_
      have e : breakD l x = (([], 0, false), 1) := by rw [breakD, if_pos hg, if_neg hx]
      rw [e]
      have es : setD l [] x.w ag = ([], 1) := by
        unfold setD
        rw [if_neg (by rw [hg]; decide), if_neg (fun h => by have := h.1.2.1; simp at this)]
      rw [es]
      exact ⟨by decide, rfl, by decide, .inr rfl⟩
  · refine .inl ?_
    have hg' : goodL l = false := by simpa using hg
    have e : breakD l x = (([], 0, false), 220) := by rw [breakD, if_neg hg]
    rw [e]
    have es : setD l [] x.w ag = ([], 220) := if_pos hg'
    rw [es]
    exact ⟨by decide, rfl, by decide, .inl hg'⟩
end Go.Proofs.Ytnkddjdmpnghmaa.Am
namespace Go.Proofs.Ytnkddjdmpnghmaa.Am
set_option linter.unusedSimpArgs false
set_option linter.unusedVariables false
open Go Go.RowKit
section
variable {X : Cx} {F F0 : Mem} {L : Slots} {K K0 : Own} {s : List SI}
theorem J.useS {Y : List (Nat × Row)} (hp : PlainRows Y) : ∀ {s : List SI}, wk s = true → (New F Y → J X s (F.add Y) L K) → J X s (F.add Y) L K
  | .code _ :: _, _, h => fun ι a w hF hS => h (hS.new_ hp) ι a w hF hS
  | .blk _ :: s, hs, h => J.useS (s := s) hp hs h
  | .back _ :: _, hs, _ => by simp [wk] at hs
  | [], hs, _ => by simp [wk] at hs
theorem J.gcut2 {c : Code} {α β : Type} (ok : List (Nat × Row) → α → β → Prop) (Lf : α → β → Slots) (kp : Slots) (Kf : α → β → Own) (kk : Own) (hk0 : LSub kp L) (hK0 : KSub kk K)
    (h : J X (.code c :: .back (fun F' L' K' => ∃ Y' x' y', ok Y' x' y' ∧ PlainRows Y' ∧ F' = F.add Y' ∧ LSub (Lf x' y') L' ∧ LSub kp L' ∧ KSub (Kf x' y' ++ kk) K') :: s) F L K)
    (hn : ∀ Y x y L1 K1, L1 = Lf x y ++ kp → K1 = Kf x y ++ kk → ok Y x y → PlainRows Y → New F Y → J X s (F.add Y) L1 K1) (hs : wk s = true := by rfl) : J X (.code c :: s) F L K :=
  J.cut _ h (by
    rintro F' L' K' ⟨Y, x', y', h1, hp, rfl, h2, h3, h4⟩
    exact J.useS hp hs fun hN => J.weakS hs (h2.app h3) h4 (hn Y x' y' _ _ rfl rfl h1 hp hN))
theorem gck2 {α β : Type} {ok : List (Nat × Row) → α → β → Prop} {Lf : α → β → Slots} {kp : Slots} {Kf : α → β → Own} {kk : Own} (Y' : List (Nat × Row)) (x' : α) (y' : β) (hL : LSub (Lf x' y') L) (hk : LSub kp L) (hK : KSub (Kf x' y' ++ kk) K) (hFe : F0 = F.add Y') (hp : PlainRows Y') (hok : ok Y' x' y') :
    J X (.back (fun F' L' K' => ∃ Y' x' y', ok Y' x' y' ∧ PlainRows Y' ∧ F' = F.add Y' ∧ LSub (Lf x' y') L' ∧ LSub kp L' ∧ KSub (Kf x' y' ++ kk) K') :: s) F0 L K := ⟨Y', x', y', hok, hp, hFe, hL, hk, hK⟩
end
end Go.Proofs.Ytnkddjdmpnghmaa.Am
namespace Go.Proofs.Ytnkddjdmpnghmaa.Am
set_option linter.unusedSimpArgs false
set_option linter.unusedVariables false
set_option maxRecDepth 100000
set_option maxHeartbeats 4000000
open Go Go.RowKit
theorem SD.remT {F : Mem} {K : Own} {L : Slots} {t t' : TypeId} {x y : Operand} {a b : Int} (hx : evO L x = some (.int .i64 a)) (hy : evO L y = some (.int .i64 b)) (hb : b ≠ 0) : SD Try.prog F K L (.binOp .rem t x y t') (.int .i64 (a.tmod b)) := by
  intro ι ρ he o' ho w _
  obtain ⟨dst, op, type, pos, after, guard⟩ := o'
  simp only at ho
  subst ho
  simp [execOp, he _ _ hx, he _ _ hy, binOp, eqGuard, Op.intDiv, hb]
theorem Mod_C (F : Mem) (a : Int) (ha : i64ok a) : C0 Try.prog 21 [.int .i64 a, .int .i64 4] F (.int .i64 (a % 4)) := by
  unfold i64ok at ha
  have hq : a.tmod 4 = if 0 ≤ a then a % 4 else -((-a) % 4) := by
    split
    · exact Int.tmod_eq_emod_of_nonneg (by assumption)
    · rw [show a = -(-a) from by omega, Int.neg_tmod, Int.tmod_eq_emod_of_nonneg (by omega)]
      simp
  have hb : -3 ≤ a.tmod 4 ∧ a.tmod 4 ≤ 3 := by rw [hq]; split <;> omega
  have he : (a.tmod 4 + 4).tmod 4 = a % 4 := by
    rw [Int.tmod_eq_emod_of_nonneg (by omega), hq]
    split <;> omega
  refine C.go hT Try.func21 Try.ntmps21 ?_
  refine sq ?_
  refine rg ?_
  refine st (h := O) ?_
  refine nl ?_
  iterate 2 (refine sq ?_)
  refine rg ?_
  iterate 2 (refine st (h := O) ?_)
  refine nl ?_
  refine cD (fun c0 => ?_) (fun c0 => ?_)
  ·refine sq ?_
   refine rg ?_
   refine st (h := O) ?_
   refine nl ?_
   first | exact rt ⟨congrArg _ he, rfl⟩ | (exfalso; omega)
  ·refine sk ?_
   refine sq ?_
   refine rg ?_
   iterate 2 (refine st (h := O) ?_)
   refine st (h := SD.remT rfl rfl (by decide)) ?_
   refine st (h := O) ?_
   refine st (h := sdA) ?_
   refine st (h := O) ?_
   refine st (h := SD.remT rfl rfl (by decide)) ?_
   refine st (h := O) ?_
   refine nl ?_
   first | exact rt ⟨congrArg _ he, rfl⟩ | (exfalso; omega)
theorem measD_bd {l : List Item} {a b : Int} : (0 ≤ (measD l a b).1 ∧ (measD l a b).1 ≤ 1125899906842624) ∧ (0 ≤ (measD l a b).2.2 ∧ (measD l a b).2.2 ≤ 1099511627776) := by
  by_cases h : lineB l a b = true
  · obtain ⟨hg, h0, h1, h2, h3⟩ := lineB_facts h
    rw [measD, if_pos h]
    exact ⟨mW_bd hg (by omega), (mYZ hg (by omega)).2⟩
  · rw [lineB_no h]
    decide
theorem lines_len {l : List Item} {ats : List Int} (h : ∀ j, j < ats.length → lineB l (prevA ats j) (ints ats j) = true) : ats.length ≤ l.length := by
  have key : ∀ j, j < ats.length → (j : Int) ≤ ints ats j := by
    intro j
    induction j with
    | zero => intro hj; have := lineB_facts (h 0 hj); omega
    | succ j ih =>
      intro hj
      have h1 := ih (by omega)
      have h2 := lineB_facts (h (j + 1) hj)
      have h3 : prevA ats (j + 1) = ints ats j := rfl
      omega
  rcases Nat.eq_zero_or_pos ats.length with h0 | h0
  · omega
  · have h1 := key (ats.length - 1) (by omega)
    have h2 := lineB_facts (h (ats.length - 1) (by omega))
    omega
theorem room_in {l : List Item} {a b k xw : Int} (hg : goodL l = true) (hln : lineB l a b = true) (h : ∀ n : Nat, a < n → (n : Int) ≤ b → legalB l n = true → ¬ mW l (a + 1).toNat n - mZ l (a + 1).toNat n ≤ xw) (h1 : a < k) (hl : (goodL l && legalB l k) = true) (hw : (measD l a k).1 - (measD l a k).2.2 ≤ xw) : ¬ k ≤ b := by
  intro h2
  rw [hg, Bool.true_and] at hl
  obtain ⟨q1, q2, q3⟩ := lineB_iff.1 hln
  have hk : lineB l a k = true := lineB_iff.2 ⟨by rw [hg]; exact hl, h1, q3⟩
  obtain ⟨_, _, _, _, _⟩ := lineB_facts hk
  obtain ⟨n, rfl⟩ := Int.eq_ofNat_of_zero_le (show 0 ≤ k by omega)
  rw [measD, if_pos hk] at hw
  exact h n h1 h2 hl hw
theorem law8_C (F : Mem) (v : Value) (l : List Item) (x : Par) (al : Int) (hv : RItems F v l) (hgl : ∀ i ∈ l, i.glyphs.length * 8 ≤ 140737488355328) (hal : i64ok al) : C0 Try.prog 8 [v, x.v, .int .i64 al] F (.bool true) := by
  obtain ⟨vb, vc, hvb, rfl⟩ := hv.opl
  have hBr : ∀ G w, RItems G w l → _ := fun G w h => Break_C G w l x h
  have hag : 0 ≤ al % 4 ∧ al % 4 ≤ 3 := by omega
  have hrf := room_facts (l := l) (x := x) hag
  have hbl : (breakD l x).1.1.length ≤ l.length := by
    rcases hrf with ⟨_, _, _, h⟩ | ⟨_, _, _, _, h, _⟩
    · unfold breakD
      rcases h with h | h
      · rw [if_neg (by rw [h]; decide)]; exact Nat.zero_le _
      · unfold breakD at h
        split
        · split
          · split <;> rename_i h1 h2 h3
            · rw [if_pos h1, if_pos h2, if_pos h3] at h; cases h
            · rw [if_pos h1, if_pos h2, if_neg h3] at h; cases h
          · exact Nat.zero_le _
        · exact Nat.zero_le _
    · exact lines_len h
  obtain ⟨xw, tol, line, twice, odd⟩ := x
  generalize hx : (⟨xw, tol, line, twice, odd⟩ : Par) = x at *
  have hxv : x.v = .agg #[.int .i64 xw, .int .i64 tol, .int .i64 line, .int .i64 twice, .int .i64 odd] := by rw [← hx]; rfl
  have hxw' : x.w = xw := by rw [← hx]
  rw [hxv] at hBr ⊢
  rw [hxw'] at hrf
  generalize hbd : breakD l x = bd at hBr hrf hbl
  obtain ⟨⟨ats, cost, fits⟩, er⟩ := bd
  dsimp only at hrf hBr hbl
  refine C.go hT Try.func8 Try.ntmps8 ?_
  refine sq ?_
  refine rg ?_
  refine bx (hL := by simp [ntL, ntV, nt2, argL, nt1_i, nt1_b, hvb.nt]) ?_
  refine st (h := O) ?_
  refine nl ?_
  iterate 2 (refine sq ?_)
  refine rg ?_
  iterate 3 (refine st (h := O) ?_)
  refine nl ?_
  refine cD (fun c0 => ?_) (fun c0 => ?_)
  ·refine sq ?_
   refine rg ?_
   refine cl (h := by exact fun ι hV hl => wakes25_C _) ?_
   refine st (h := O) ?_
   refine nl ?_
   repeat refine J.dropF ?_
   first
     | exact rt ⟨rfl, rfl⟩
     | (exfalso; rcases z4 with z4 | z4; (simp [z4] at g55); (exact absurd z4 g60))
     | (exfalso; simp at *; done)
     | (exfalso; simp at *; omega)
  ·have hlen : l.length ≤ 120 := by omega
   refine sk ?_
   refine sq ?_
   refine J.gcut2 (α := Option Addr) (β := Nat) (fun Y wa wc => RIx (F.add Y) wa ats) (fun wa wc => [(7, .pointer (some ⟨7, 0, some 0⟩)), (8, .int .i64 er)]) [(0, _), (2, _), (4, _)] (fun wa wc => [(7, { elem := 55, cs := [.slice wa ats.length wc, .int .i64 cost, .bool fits], room := 3, fz := false, flat := false })]) [(4, _)] (by exact ⟨rfl, rfl, rfl, trivial⟩) (by exact ⟨rfl, rfl, trivial⟩) ?_ ?_
   ·refine drK 10 [4] [(4, _)] [0, 2, 5008] ?_
    refine dt (hv := by exact O) ?_
    refine dt (hv := by exact sdLN) ?_
    refine JD.alt (i := 1) (j := 7) [5007] [1001, 1003, 4, 5, 2006, 1008, 2009] ?_ ?_
    ·refine jclC (hkp := by first | exact Kept.all | exact Kept.k0 | exact Kept.kY | exact Kept.kYY | exact Kept.kY3) (h := by exact fun ι hV hl => (CopyC_C _ _ l (hv.le hl) (by omega) hgl).ofR (arg1 (hvb.rV ι _ _))) ?_
     intro u1 Y1 hQ1 hv1 hp1 hN1
     obtain ⟨hs1, hcap1, hI1⟩ := hQ1
     have hI1 := hI1 _ hN1.rows
     obtain ⟨ca, cc, hca, rfl⟩ := hI1.opl
     refine JD.alt (i := 3) (j := 7) [4, 5, 2006, 1007, 1008, 2009] [1003, 4, 5, 2006, 1008, 2009] ?_ ?_
     ·refine jclC (hkp := by first | exact Kept.all | exact Kept.k0 | exact Kept.kY | exact Kept.kYY | exact Kept.kY3) (h := by exact fun ι hV hl => (hBr _ _ (hI1.le hl)).ofR (argC (hca.rV ι _ _) rfl)) ?_
      intro u2 Y2 hQ2 hv2 hp2 hN2
      obtain ⟨w, rfl, _, hR2⟩ := hQ2
      have hx9 := hR2 _ hN2.rows
      obtain ⟨wa, wc, rfl, hx2⟩ := RIx.ofInts hx9
      iterate 2 (refine dt (hv := by exact O) ?_)
      refine dq (hv := by exact fun _ _ => O) ?_
      refine dal (hkp := by first | exact Kept.all | exact Kept.k0 | exact Kept.kY | exact Kept.kYY | exact Kept.kY3) (hL := by first | (simp [ntL, ntV, nt2, argL, nt1_i, nt1_b, nt1_o, nt1_p, cellsL, zer, hvb.nt, hca.nt, hx2.pl.nt]; done) | (simp [ntL, ntV, nt2, argL, nt1_i, nt1_b, nt1_o, nt1_p, cellsL, zer, hvb.nt, hca.nt]; done) | (simp [ntL, ntV, nt2, argL, nt1_i, nt1_b, nt1_o, nt1_p, cellsL, zer, hvb.nt]; done)) ?_
      refine dso (hkp := by first | exact Kept.all | exact Kept.k0 | exact Kept.kY | exact Kept.kYY | exact Kept.kY3) ?_
      refine dq (hv := by exact fun _ _ => O) ?_
      refine dn ?_
      refine gck2 (_) (_) (_) (by exact ⟨rfl, rfl, trivial⟩) (by exact ⟨rfl, rfl, rfl, trivial⟩) (by exact ⟨rfl, rfl, rfl, rfl, trivial⟩) (by first | rfl | exact add_add _ _ _) ?_ ?_
      · exact PlainRows.app hp1 hp2
      rw [← add_add]; exact hx2
     ·refine jal (hkp := by first | exact Kept.all | exact Kept.k0 | exact Kept.kY | exact Kept.kYY | exact Kept.kY3) (hL := by first | (simp [ntL, ntV, nt2, argL, nt1_i, nt1_b, nt1_o, nt1_p, cellsL, zer, hvb.nt, hca.nt, hx2.pl.nt]; done) | (simp [ntL, ntV, nt2, argL, nt1_i, nt1_b, nt1_o, nt1_p, cellsL, zer, hvb.nt, hca.nt]; done) | (simp [ntL, ntV, nt2, argL, nt1_i, nt1_b, nt1_o, nt1_p, cellsL, zer, hvb.nt]; done)) ?_
      refine dclC (hkp := by first | exact Kept.all | exact Kept.k0 | exact Kept.kY | exact Kept.kYY | exact Kept.kY3) (h := by exact fun ι hV hl => (hBr _ _ (hI1.le hl)).ofR (argC (hca.rV ι _ _) rfl)) ?_
      intro u2 Y2 hQ2 hv2 hp2 hN2
      obtain ⟨w, rfl, _, hR2⟩ := hQ2
      have hx9 := hR2 _ hN2.rows
      obtain ⟨wa, wc, rfl, hx2⟩ := RIx.ofInts hx9
      iterate 2 (refine dt (hv := by exact O) ?_)
      refine dq (hv := by exact fun _ _ => O) ?_
      refine dso (hkp := by first | exact Kept.all | exact Kept.k0 | exact Kept.kY | exact Kept.kYY | exact Kept.kY3) ?_
      refine dq (hv := by exact fun _ _ => O) ?_
      refine dn ?_
      refine gck2 (_) (_) (_) (by exact ⟨rfl, rfl, trivial⟩) (by exact ⟨rfl, rfl, rfl, trivial⟩) (by exact ⟨rfl, rfl, rfl, rfl, trivial⟩) (by first | rfl | exact add_add _ _ _) ?_ ?_
      · exact PlainRows.app hp1 hp2
      rw [← add_add]; exact hx2
    ·refine jal (hkp := by first | exact Kept.all | exact Kept.k0 | exact Kept.kY | exact Kept.kYY | exact Kept.kY3) (hL := by first | (simp [ntL, ntV, nt2, argL, nt1_i, nt1_b, nt1_o, nt1_p, cellsL, zer, hvb.nt, hca.nt, hx2.pl.nt]; done) | (simp [ntL, ntV, nt2, argL, nt1_i, nt1_b, nt1_o, nt1_p, cellsL, zer, hvb.nt, hca.nt]; done) | (simp [ntL, ntV, nt2, argL, nt1_i, nt1_b, nt1_o, nt1_p, cellsL, zer, hvb.nt]; done)) ?_
     refine dclC (hkp := by first | exact Kept.all | exact Kept.k0 | exact Kept.kY | exact Kept.kYY | exact Kept.kY3) (h := by exact fun ι hV hl => (CopyC_C _ _ l (hv.le hl) (by omega) hgl).ofR (arg1 (hvb.rV ι _ _))) ?_
     intro u1 Y1 hQ1 hv1 hp1 hN1
     obtain ⟨hs1, hcap1, hI1⟩ := hQ1
     have hI1 := hI1 _ hN1.rows
     obtain ⟨ca, cc, hca, rfl⟩ := hI1.opl
     refine dclC (hkp := by first | exact Kept.all | exact Kept.k0 | exact Kept.kY | exact Kept.kYY | exact Kept.kY3) (h := by exact fun ι hV hl => (hBr _ _ (hI1.le hl)).ofR (argC (hca.rV ι _ _) rfl)) ?_
     intro u2 Y2 hQ2 hv2 hp2 hN2
     obtain ⟨w, rfl, _, hR2⟩ := hQ2
     have hx9 := hR2 _ hN2.rows
     obtain ⟨wa, wc, rfl, hx2⟩ := RIx.ofInts hx9
     iterate 2 (refine dt (hv := by exact O) ?_)
     refine dq (hv := by exact fun _ _ => O) ?_
     refine dso (hkp := by first | exact Kept.all | exact Kept.k0 | exact Kept.kY | exact Kept.kYY | exact Kept.kY3) ?_
     refine dq (hv := by exact fun _ _ => O) ?_
     refine dn ?_
     refine gck2 (_) (_) (_) (by exact ⟨rfl, rfl, trivial⟩) (by exact ⟨rfl, rfl, rfl, trivial⟩) (by exact ⟨rfl, rfl, rfl, rfl, trivial⟩) (by first | rfl | exact add_add _ _ _) ?_ ?_
     · exact PlainRows.app hp1 hp2
     rw [← add_add]; exact hx2
   ·intro Y wa wc L1 K1 e1 e2 hI hY hN
    dsimp only [List.cons_append, List.nil_append] at e1 e2
    subst e1 e2
    have hx0 := hI
    have hv0 := hv.le hN.le
    refine sq ?_
    refine J.weak (L0 := [(0, _), (2, _), (4, _), (7, _), (8, _)]) (K0 := [(7, _), (4, _)]) (by exact ⟨rfl, rfl, rfl, rfl, rfl, trivial⟩) (by exact ⟨rfl, rfl, rfl, rfl, trivial⟩) ?_
    refine drK (tgk := by simp [tgK, cellsL, tg1_i, tg1_b, hx0.pl.tg]) 16 [7, 4] [(4, _), (7, _)] [0, 3, 4, 6, 7, 8, 5010] ?_
    refine dt (hv := by exact O) ?_
    refine dt (hv := by exact sdFA) ?_
    refine dt (hv := by exact sdL) ?_
    refine dt (hv := by exact sdFA) ?_
    refine dt (hv := by exact sdL) ?_
    refine dt (hv := by exact O) ?_
    refine JD.alt (i := 1) (j := 2) [1002, 1005, 1009, 1010, 11, 12, 13, 14, 15] [1001, 1005, 1009, 1010, 11, 12, 13, 14, 15] ?_ ?_
    ·refine jclC (hkp := by first | exact Kept.all | exact Kept.k0 | exact Kept.kY | exact Kept.kYY | exact Kept.kY3) (h := by exact fun ι hV hl => (CopyC_C _ _ l (hv0.le hl) (by omega) hgl).ofR (arg1 (hvb.rV ι _ _))) ?_
     intro u1 Y1 hQ1 hv1 hp1 hN1
     obtain ⟨hs1, hcap1, hI1⟩ := hQ1
     have hI1 := hI1 _ hN1.rows
     obtain ⟨ca, cc, hca, rfl⟩ := hI1.opl
     refine dsl (hL := by first | (simp [ntL, ntV, nt2, argL, nt1_i, nt1_b, nt1_o, nt1_p, cellsL, zer, hvb.nt, hca.nt, hx0.pl.nt]; done) | (simp [ntL, ntV, nt2, argL, nt1_i, nt1_b, nt1_o, nt1_p, cellsL, zer, hvb.nt, hx0.pl.nt]; done)) (hK := by simp [ntK, cellsL, zer, nt1_i, nt1_b, hx0.pl.nt]) ?_
     refine dapA0 1 500021 31 ((hx0.le hN1.le).app wc) (ivs_pl _) ?_ (hL := by simp [ntL, ntV, nt2, argL, nt1_i, nt1_b, nt1_o, nt1_p, cellsL, zer, hvb.nt, hx0.pl.nt, hca.nt]) (hK := by simp [ntK, cellsL, zer, nt1_i, nt1_b, hx0.pl.nt])
     intro cap21 hc21 hd21
     refine dcl (hkp := by first | exact Kept.all | exact Kept.k0 | exact Kept.kY | exact Kept.kYY | exact Kept.kY3) (h := by exact fun ι hV hl => Mod_C _ al hal) ?_
     refine dclC (hkp := by first | exact Kept.all | exact Kept.k0 | exact Kept.kY | exact Kept.kYY | exact Kept.kY3) (h := by exact fun ι hV hl => (Set_C _ _ (some ⟨ι 500021, 0, none⟩) cap21 l ats xw (al % 4) (hI1.le hl) (hV.intsX (t := 500021) rfl rfl (by omega)) hcap1 hgl (by omega)).ofR (argC (hca.rV ι _ _) rfl)) ?_
     intro u2 Y2 hQ2 hv2 hp2 hN2
     have hv2' := (hv0.le hN1.le).le hN2.le
     rcases hrf with ⟨z1, z2, z3, z4⟩ | ⟨z1, hg, hm, e, hch, hov⟩
     · obtain ⟨lv, hu, hlv, hR2⟩ := hQ2
       rw [z2] at hR2
       have hS2 := hR2 _ hN2.rows
       obtain ⟨pa, pc, hpa, e3, h63, hlr⟩ := ln_at hS2
       subst e3
       subst hu
       iterate 5 (refine dt (hv := by exact O) ?_)
       refine dn ?_
       iterate 2 (refine sq ?_)
       refine rg ?_
       iterate 2 (refine st (h := O) ?_)
       refine nl ?_
       refine cN (fun c1 => ?_) (fun c1 => ?_)
       ·try (exact absurd z1 c1)
        all_goals
          refine sq ?_
          refine rg ?_
          iterate 3 (refine st (h := O) ?_)
          refine gN (fun g46 => ?_) (fun g46 => ?_)
          ·refine sg (h := O) ?_
           iterate 2 (refine sg (h := O) ?_)
           iterate 2 (refine st (h := O) ?_)
           refine gD (fun g51 => ?_) (fun g51 => ?_)
           ·refine sg (h := O) ?_
            refine clg (h := by exact fun ι hV hl => (RGood_C _ _ l (hv2'.le hl)).ofR (arg1 (hvb.rV ι _ _))) ?_
            iterate 2 (refine sg (h := O) ?_)
            refine gB (fun g55 => ?_) (fun g55 => ?_)
            ·refine sp ?_
             refine sp ?_
             refine sg (h := O) ?_
             iterate 2 (refine st (h := O) ?_)
             refine clg (h := by exact fun ι hV hl => wakes25_C _) ?_
             iterate 2 (refine st (h := O) ?_)
             refine nl ?_
             repeat refine J.dropF ?_
             first
               | exact rt ⟨rfl, rfl⟩
               | (exfalso; rcases z4 with z4 | z4; (simp [z4] at g55); (exact absurd z4 g60))
               | (exfalso; simp at *; done)
               | (exfalso; simp at *; omega)
            ·refine sg (h := O) ?_
             iterate 2 (refine sg (h := O) ?_)
             iterate 2 (refine st (h := O) ?_)
             refine gD (fun g60 => ?_) (fun g60 => ?_)
             ·refine clg (h := by exact fun ι hV hl => wakes25_C _) ?_
              iterate 2 (refine st (h := O) ?_)
              refine nl ?_
              repeat refine J.dropF ?_
              first
                | exact rt ⟨rfl, rfl⟩
                | (exfalso; rcases z4 with z4 | z4; (simp [z4] at g55); (exact absurd z4 g60))
                | (exfalso; simp at *; done)
                | (exfalso; simp at *; omega)
             ·refine sp ?_
              iterate 2 (refine st (h := O) ?_)
              refine nl ?_
              repeat refine J.dropF ?_
              first
                | exact rt ⟨rfl, rfl⟩
                | (exfalso; rcases z4 with z4 | z4; (simp [z4] at g55); (exact absurd z4 g60))
                | (exfalso; simp at *; done)
                | (exfalso; simp at *; omega)
           ·refine sp ?_
            iterate 3 (refine sp ?_)
            iterate 2 (refine su ?_)
            refine sp ?_
            iterate 2 (refine st (h := O) ?_)
            refine sp ?_
            iterate 2 (refine st (h := O) ?_)
            refine nl ?_
            repeat refine J.dropF ?_
            first
              | exact rt ⟨rfl, rfl⟩
              | (exfalso; rcases z4 with z4 | z4; (simp [z4] at g55); (exact absurd z4 g60))
              | (exfalso; simp at *; done)
              | (exfalso; simp at *; omega)
          ·refine sp ?_
           iterate 2 (refine sp ?_)
           iterate 2 (refine st (h := O) ?_)
           iterate 4 (refine sp ?_)
           iterate 2 (refine su ?_)
           refine sp ?_
           iterate 2 (refine st (h := O) ?_)
           refine sp ?_
           iterate 2 (refine st (h := O) ?_)
           refine nl ?_
           repeat refine J.dropF ?_
           first
             | exact rt ⟨rfl, rfl⟩
             | (exfalso; rcases z4 with z4 | z4; (simp [z4] at g55); (exact absurd z4 g60))
             | (exfalso; simp at *; done)
             | (exfalso; simp at *; omega)
       ·try (exact absurd c1 z1)
        all_goals
          refine sk ?_
          iterate 2 (refine sq ?_)
          refine rg ?_
          iterate 3 (refine st (h := O) ?_)
          refine gN (fun g65 => ?_) (fun g65 => ?_)
          ·refine sp ?_
           iterate 5 (refine sp ?_)
           refine st (h := O) ?_
           refine nl ?_
           refine cT ?_
           refine sq ?_
           refine rg ?_
           refine st (h := O) ?_
           refine nl ?_
           repeat refine J.dropF ?_
           first
             | exact rt ⟨rfl, rfl⟩
             | (exfalso; rcases z4 with z4 | z4; (simp [z4] at g55); (exact absurd z4 g60))
             | (exfalso; simp at *; done)
             | (exfalso; simp at *; omega)
          ·refine sg (h := O) ?_
           refine sg (h := O) ?_
           refine sg (h := sdFA) ?_
           refine sg (h := sdL) ?_
           iterate 2 (refine sg (h := O) ?_)
           refine st (h := O) ?_
           refine nl ?_
           refine cN (fun c2 => ?_) (fun c2 => ?_)
           ·exact absurd rfl c2
           ·refine sk ?_
            refine sq ?_
            refine rg ?_
            refine st (h := O) ?_
            refine nl ?_
            iterate 2 (refine sq ?_)
            refine rg ?_
            refine st (h := O) ?_
            refine nl ?_
            refine bl ?_
            refine J.loop1 (α := Nat) (fun i => i ≤ ats.length) (fun i => [(11, .int .i64 (prevA ats i)), (12, .int .i64 i)]) [(0, _), (4, _), (7, _), (9, _)] (fun i => []) [(4, _), (7, _)] (fun i => ats.length - i) (0) (by exact ⟨rfl, rfl, trivial⟩) (by exact ⟨rfl, rfl, rfl, rfl, trivial⟩) (by exact ⟨rfl, rfl, rfl, rfl, trivial⟩) ?_ ?_
            · exact Nat.zero_le _
            ·intro i L1 K1 e1 e2 hI
             dsimp only [apV, apR, List.cons_append, List.nil_append] at e1 e2
             subst e1 e2
             iterate 2 (refine sq ?_)
             refine rg ?_
             iterate 4 (refine st (h := O) ?_)
             refine nl ?_
             refine cD (fun c3 => ?_) (fun c3 => ?_)
             ·have hil : i < ats.length := by omega
              have hln := hch i hil
              have hlt := lineB_facts hln
              obtain ⟨ho, f1, f2, f3, f4, f5, hms⟩ := ln_facts hm hln
              have hov := hov i hil
              obtain ⟨lb, lo, y, yp, ypc, rfl, hy, h3, _, _⟩ := hlr i (by rw [hnl]; exact hil)
              obtain rfl : lnAt l ats xw (al % 4) i = y := by rw [linesN_get hil] at hy; exact Option.some.inj hy
              obtain ⟨ab, ao, rfl, har⟩ := hx0.rd (by omega)
              have q1 : look (((F.add Y).add Y1).add Y2) ⟨ab, ao + (i : Int).toNat * 1, none⟩ = some (.int .i64 (ints ats i)) := by
                rw [Int.toNat_natCast, Nat.mul_one]
                exact hN2.le _ _ (hN1.le _ _ (har _ _ (ints_get hil)))
              rw [show lo + i * 3 = lo + (i : Int).toNat * 3 from rfl] at h3
              have k1 : look (((F.add Y).add Y1).add Y2) ⟨lb, lo + (i : Int).toNat * 3 + 1, none⟩ = some (.bool (lnAt l ats xw (al % 4) i).over) := lookN_at h3 1 rfl
              rw [ho] at k1
              have hm2 := hm
              simp only [mayB, decide_eq_true_eq] at hm2
              refine sk ?_
              refine sq ?_
              refine bl ?_
              iterate 2 (refine sq ?_)
              refine J.cut1 (α := Bool) (fun q => q = false) (fun q => [(87, .bool q)]) [(0, _), (4, _), (7, _), (9, _), (11, _), (12, _)] (fun q => []) [(4, _), (7, _)] (by exact ⟨rfl, rfl, rfl, rfl, rfl, rfl, trivial⟩) (by exact ⟨rfl, rfl, rfl, rfl, trivial⟩) ?_ ?_
              ·refine rg ?_
               refine st (h := sdFA) ?_
               refine st (h := sdL) ?_
               refine st (h := O) ?_
               refine gB (fun g81 => ?_) (fun g81 => ?_)
               ·refine sg (h := O) ?_
                refine sg (h := O) ?_
                refine sg (h := (sdX (z := 3))) ?_
                refine sg (h := sdFA) ?_
                refine sg (h := sdL) ?_
                refine st (h := O) ?_
                refine nl ?_
                refine ck1 (_) (by exact ⟨rfl, trivial⟩) (by exact ⟨rfl, rfl, rfl, rfl, rfl, rfl, trivial⟩) (by exact ⟨rfl, rfl, rfl, rfl, trivial⟩) ?_
                first
                  | rfl
                  | (rw [decide_eq_false_iff_not]; intro h9; have h8 := (hov h9).1; rw [h8] at g81; cases g81)
                  | (simp at *; done)
                  | (exfalso; simp at *; omega)
               ·refine sp ?_
                iterate 4 (refine sp ?_)
                refine st (h := O) ?_
                refine nl ?_
                refine ck1 (_) (by exact ⟨rfl, trivial⟩) (by exact ⟨rfl, rfl, rfl, rfl, rfl, rfl, trivial⟩) (by exact ⟨rfl, rfl, rfl, rfl, trivial⟩) ?_
                first
                  | rfl
                  | (rw [decide_eq_false_iff_not]; intro h9; have h8 := (hov h9).1; rw [h8] at g81; cases g81)
                  | (simp at *; done)
                  | (exfalso; simp at *; omega)
              ·intro q L1 K1 e1 e2 hI
               dsimp only [List.cons_append, List.nil_append] at e1 e2
               subst e1 e2
               subst hI
               refine cB (fun c4 => ?_) (fun c4 => ?_)
               ·cases c4
               ·refine sk ?_
                iterate 2 (refine sq ?_)
                refine J.cut1 (α := Bool) (fun q => q = true → mZ l (prevA ats i + 1).toNat (ints ats i).toNat < -(xw - mW l (prevA ats i + 1).toNat (ints ats i).toNat)) (fun q => [(97, .bool q)]) [(0, _), (4, _), (7, _), (9, _), (11, _), (12, _)] (fun q => []) [(4, _), (7, _)] (by exact ⟨rfl, rfl, rfl, rfl, rfl, rfl, trivial⟩) (by exact ⟨rfl, rfl, rfl, rfl, trivial⟩) ?_ ?_
                ·refine rg ?_
                 refine st (h := sdFA) ?_
                 refine st (h := sdL) ?_
                 iterate 2 (refine st (h := O) ?_)
                 refine gB (fun g91 => ?_) (fun g91 => ?_)
                 ·refine sg (h := O) ?_
                  refine sg (h := O) ?_
                  refine sg (h := (sdX (z := 3))) ?_
                  refine sg (h := sdFA) ?_
                  refine sg (h := sdL) ?_
                  refine st (h := O) ?_
                  refine nl ?_
                  refine ck1 (_) (by exact ⟨rfl, trivial⟩) (by exact ⟨rfl, rfl, rfl, rfl, rfl, rfl, trivial⟩) (by exact ⟨rfl, rfl, rfl, rfl, trivial⟩) ?_
                  first
                    | (intro h9; cases h9; done)
                    | (intro h9; simp at h9; omega)
                 ·refine sp ?_
                  iterate 4 (refine sp ?_)
                  refine st (h := O) ?_
                  refine nl ?_
                  refine ck1 (_) (by exact ⟨rfl, trivial⟩) (by exact ⟨rfl, rfl, rfl, rfl, rfl, rfl, trivial⟩) (by exact ⟨rfl, rfl, rfl, rfl, trivial⟩) ?_
                  first
                    | (intro h9; cases h9; done)
                    | (intro h9; simp at h9; omega)
                ·intro q L1 K1 e1 e2 hI
                 dsimp only [List.cons_append, List.nil_append] at e1 e2
                 subst e1 e2
                 have hI15 := hI
                 refine cB (fun c5 => ?_) (fun c5 => ?_)
                 ·refine sq ?_
                  refine rg ?_
                  refine st (h := O) ?_
                  refine st (h := sdA) ?_
                  refine st (h := O) ?_
                  refine nl ?_
                  refine bl ?_
                  refine J.loop1 (α := Int) (fun k => prevA ats i < k ∧ k ≤ l.length) (fun k => [(13, .int .i64 k)]) [(0, _), (4, _), (7, _), (9, _), (11, _), (12, _)] (fun k => []) [(4, _), (7, _)] (fun k => (l.length - k).toNat) (prevA ats i + 1) (by exact ⟨rfl, trivial⟩) (by exact ⟨rfl, rfl, rfl, rfl, rfl, rfl, trivial⟩) (by exact ⟨rfl, rfl, rfl, rfl, trivial⟩) ?_ ?_
                  · omega
                  ·intro k L1 K1 e1 e2 hI
                   dsimp only [apV, apR, List.cons_append, List.nil_append] at e1 e2
                   subst e1 e2
                   iterate 2 (refine sq ?_)
                   refine rg ?_
                   iterate 4 (refine st (h := O) ?_)
                   refine nl ?_
                   refine cD (fun c6 => ?_) (fun c6 => ?_)
                   ·refine sk ?_
                    refine sq ?_
                    refine bl ?_
                    refine sq ?_
                    refine rg ?_
                    iterate 3 (refine st (h := O) ?_)
                    refine cl (h := by exact fun ι hV hl => (R24Measure_C _ _ l _ _ (hv2'.le hl)).ofR (argC (hvb.rV ι _ _) rfl)) ?_
                    obtain ⟨⟨m1, m2⟩, m3, m4⟩ := measD_bd (l := l) (a := prevA ats i) (b := k)
                    iterate 7 (refine st (h := O) ?_)
                    refine nl ?_
                    refine sq ?_
                    refine J.cut1 (α := Bool) (fun q => q = false) (fun q => [(133, .bool q)]) [(0, _), (4, _), (7, _), (9, _), (11, _), (12, _), (13, _)] (fun q => []) [(4, _), (7, _)] (by exact ⟨rfl, rfl, rfl, rfl, rfl, rfl, rfl, trivial⟩) (by exact ⟨rfl, rfl, rfl, rfl, trivial⟩) ?_ ?_
                    ·refine rg ?_
                     iterate 2 (refine st (h := O) ?_)
                     refine cl (h := by exact fun ι hV hl => (R24Legal_C _ _ l k (hv2'.le hl)).ofR (argC (hvb.rV ι _ _) rfl)) ?_
                     refine st (h := O) ?_
                     refine gB (fun g117 => ?_) (fun g117 => ?_)
                     ·refine sg (h := O) ?_
                      refine sg (h := O) ?_
                      refine sg (h := sdS) ?_
                      refine sg (h := sdFA) ?_
                      refine sg (h := sdL) ?_
                      refine sg (h := O) ?_
                      iterate 2 (refine st (h := O) ?_)
                      refine gD (fun g125 => ?_) (fun g125 => ?_)
                      ·refine sg (h := O) ?_
                       refine sg (h := sdFA) ?_
                       refine sg (h := sdL) ?_
                       refine sg (h := O) ?_
                       refine sg (h := (sdX (z := 1))) ?_
                       refine sg (h := (by first | exact sdLG | exact sdW)) ?_
                       refine sg (h := O) ?_
                       refine st (h := O) ?_
                       refine nl ?_
                       refine ck1 (_) (by exact ⟨rfl, trivial⟩) (by exact ⟨rfl, rfl, rfl, rfl, rfl, rfl, rfl, trivial⟩) (by exact ⟨rfl, rfl, rfl, rfl, trivial⟩) ?_
                       first
                         | rfl
                         | (rw [decide_eq_false_iff_not]; exact room_in hg hln (hov (hI15 c5)).2 hI.1 g117 g125)
                         | (simp at *; done)
                         | (exfalso; simp at *; omega)
                      ·refine sp ?_
                       iterate 6 (refine sp ?_)
                       refine st (h := O) ?_
                       refine nl ?_
                       refine ck1 (_) (by exact ⟨rfl, trivial⟩) (by exact ⟨rfl, rfl, rfl, rfl, rfl, rfl, rfl, trivial⟩) (by exact ⟨rfl, rfl, rfl, rfl, trivial⟩) ?_
                       first
                         | rfl
                         | (rw [decide_eq_false_iff_not]; exact room_in hg hln (hov (hI15 c5)).2 hI.1 g117 g125)
                         | (simp at *; done)
                         | (exfalso; simp at *; omega)
                     ·refine sp ?_
                      iterate 5 (refine sp ?_)
                      iterate 2 (refine st (h := O) ?_)
                      iterate 7 (refine sp ?_)
                      refine st (h := O) ?_
                      refine nl ?_
                      refine ck1 (_) (by exact ⟨rfl, trivial⟩) (by exact ⟨rfl, rfl, rfl, rfl, rfl, rfl, rfl, trivial⟩) (by exact ⟨rfl, rfl, rfl, rfl, trivial⟩) ?_
                      first
                        | rfl
                        | (rw [decide_eq_false_iff_not]; exact room_in hg hln (hov (hI15 c5)).2 hI.1 g117 g125)
                        | (simp at *; done)
                        | (exfalso; simp at *; omega)
                    ·intro q L1 K1 e1 e2 hI
                     dsimp only [List.cons_append, List.nil_append] at e1 e2
                     subst e1 e2
                     subst hI
                     refine cB (fun c7 => ?_) (fun c7 => ?_)
                     ·cases c7
                     ·refine sk ?_
                      refine bk ?_
                      refine rg ?_
                      refine st (h := O) ?_
                      refine st (h := sdA) ?_
                      refine st (h := O) ?_
                      refine nl ?_
                      refine bk1 (k + 1) (by exact ⟨rfl, trivial⟩) (by exact ⟨rfl, rfl, rfl, rfl, rfl, rfl, trivial⟩) (by exact ⟨rfl, rfl, rfl, rfl, trivial⟩) ?_ ?_
                      · omega
                      · omega
                   ·refine ex ?_
                    refine rg ?_
                    refine st (h := sdFA) ?_
                    refine st (h := sdL) ?_
                    refine st (h := O) ?_
                    refine st (h := (sdX (z := 1))) ?_
                    refine st (h := (by first | exact sdLG | exact sdW)) ?_
                    refine st (h := O) ?_
                    refine nl ?_
                    refine bk ?_
                    refine rg ?_
                    refine st (h := O) ?_
                    refine st (h := sdA) ?_
                    refine st (h := O) ?_
                    refine nl ?_
                    refine bk1 (i + 1) (by exact ⟨rfl, rfl, trivial⟩) (by exact ⟨rfl, rfl, rfl, rfl, trivial⟩) (by exact ⟨rfl, rfl, rfl, rfl, trivial⟩) ?_ ?_
                    · omega
                    · omega
                 ·refine sk ?_
                  refine rg ?_
                  refine st (h := sdFA) ?_
                  refine st (h := sdL) ?_
                  refine st (h := O) ?_
                  refine st (h := (sdX (z := 1))) ?_
                  refine st (h := (by first | exact sdLG | exact sdW)) ?_
                  refine st (h := O) ?_
                  refine nl ?_
                  refine bk ?_
                  refine rg ?_
                  refine st (h := O) ?_
                  refine st (h := sdA) ?_
                  refine st (h := O) ?_
                  refine nl ?_
                  refine bk1 (i + 1) (by exact ⟨rfl, rfl, trivial⟩) (by exact ⟨rfl, rfl, rfl, rfl, trivial⟩) (by exact ⟨rfl, rfl, rfl, rfl, trivial⟩) ?_ ?_
                  · omega
                  · omega
             ·refine ex ?_
              refine sq ?_
              refine rg ?_
              refine cl (h := by exact fun ι hV hl => wakes25_C _) ?_
              refine st (h := O) ?_
              refine nl ?_
              repeat refine J.dropF ?_
              first
                | exact rt ⟨rfl, rfl⟩
                | (exfalso; rcases z4 with z4 | z4; (simp [z4] at g55); (exact absurd z4 g60))
                | (exfalso; simp at *; done)
                | (exfalso; simp at *; omega)
     · rw [e] at hQ2
       obtain ⟨lv, hu, hlv, hR2⟩ := hQ2
       dsimp only at hu hR2
       have hS2 := hR2 _ hN2.rows
       obtain ⟨pa, pc, hpa, e3, h63, hlr⟩ := ln_at hS2
       have hnl : (linesN l ats xw (al % 4) ats.length).length = ats.length := by simp [linesN]
       rw [hnl] at e3
       subst e3
       subst hu
       iterate 5 (refine dt (hv := by exact O) ?_)
       refine dn ?_
       iterate 2 (refine sq ?_)
       refine rg ?_
       iterate 2 (refine st (h := O) ?_)
       refine nl ?_
       refine cN (fun c1 => ?_) (fun c1 => ?_)
       ·try (exact absurd z1 c1)
        all_goals
          refine sq ?_
          refine rg ?_
          iterate 3 (refine st (h := O) ?_)
          refine gN (fun g46 => ?_) (fun g46 => ?_)
          ·refine sg (h := O) ?_
           iterate 2 (refine sg (h := O) ?_)
           iterate 2 (refine st (h := O) ?_)
           refine gD (fun g51 => ?_) (fun g51 => ?_)
           ·refine sg (h := O) ?_
            refine clg (h := by exact fun ι hV hl => (RGood_C _ _ l (hv2'.le hl)).ofR (arg1 (hvb.rV ι _ _))) ?_
            iterate 2 (refine sg (h := O) ?_)
            refine gB (fun g55 => ?_) (fun g55 => ?_)
            ·refine sp ?_
             refine sp ?_
             refine sg (h := O) ?_
             iterate 2 (refine st (h := O) ?_)
             refine clg (h := by exact fun ι hV hl => wakes25_C _) ?_
             iterate 2 (refine st (h := O) ?_)
             refine nl ?_
             repeat refine J.dropF ?_
             first
               | exact rt ⟨rfl, rfl⟩
               | (exfalso; rcases z4 with z4 | z4; (simp [z4] at g55); (exact absurd z4 g60))
               | (exfalso; simp at *; done)
               | (exfalso; simp at *; omega)
            ·refine sg (h := O) ?_
             iterate 2 (refine sg (h := O) ?_)
             iterate 2 (refine st (h := O) ?_)
             refine gD (fun g60 => ?_) (fun g60 => ?_)
             ·refine clg (h := by exact fun ι hV hl => wakes25_C _) ?_
              iterate 2 (refine st (h := O) ?_)
              refine nl ?_
              repeat refine J.dropF ?_
              first
                | exact rt ⟨rfl, rfl⟩
                | (exfalso; rcases z4 with z4 | z4; (simp [z4] at g55); (exact absurd z4 g60))
                | (exfalso; simp at *; done)
                | (exfalso; simp at *; omega)
             ·refine sp ?_
              iterate 2 (refine st (h := O) ?_)
              refine nl ?_
              repeat refine J.dropF ?_
              first
                | exact rt ⟨rfl, rfl⟩
                | (exfalso; rcases z4 with z4 | z4; (simp [z4] at g55); (exact absurd z4 g60))
                | (exfalso; simp at *; done)
                | (exfalso; simp at *; omega)
           ·refine sp ?_
            iterate 3 (refine sp ?_)
            iterate 2 (refine su ?_)
            refine sp ?_
            iterate 2 (refine st (h := O) ?_)
            refine sp ?_
            iterate 2 (refine st (h := O) ?_)
            refine nl ?_
            repeat refine J.dropF ?_
            first
              | exact rt ⟨rfl, rfl⟩
              | (exfalso; rcases z4 with z4 | z4; (simp [z4] at g55); (exact absurd z4 g60))
              | (exfalso; simp at *; done)
              | (exfalso; simp at *; omega)
          ·refine sp ?_
           iterate 2 (refine sp ?_)
           iterate 2 (refine st (h := O) ?_)
           iterate 4 (refine sp ?_)
           iterate 2 (refine su ?_)
           refine sp ?_
           iterate 2 (refine st (h := O) ?_)
           refine sp ?_
           iterate 2 (refine st (h := O) ?_)
           refine nl ?_
           repeat refine J.dropF ?_
           first
             | exact rt ⟨rfl, rfl⟩
             | (exfalso; rcases z4 with z4 | z4; (simp [z4] at g55); (exact absurd z4 g60))
             | (exfalso; simp at *; done)
             | (exfalso; simp at *; omega)
       ·try (exact absurd c1 z1)
        all_goals
          refine sk ?_
          iterate 2 (refine sq ?_)
          refine rg ?_
          iterate 3 (refine st (h := O) ?_)
          refine gN (fun g65 => ?_) (fun g65 => ?_)
          ·refine sp ?_
           iterate 5 (refine sp ?_)
           refine st (h := O) ?_
           refine nl ?_
           refine cT ?_
           refine sq ?_
           refine rg ?_
           refine st (h := O) ?_
           refine nl ?_
           repeat refine J.dropF ?_
           first
             | exact rt ⟨rfl, rfl⟩
             | (exfalso; rcases z4 with z4 | z4; (simp [z4] at g55); (exact absurd z4 g60))
             | (exfalso; simp at *; done)
             | (exfalso; simp at *; omega)
          ·refine sg (h := O) ?_
           refine sg (h := O) ?_
           refine sg (h := sdFA) ?_
           refine sg (h := sdL) ?_
           iterate 2 (refine sg (h := O) ?_)
           refine st (h := O) ?_
           refine nl ?_
           refine cN (fun c2 => ?_) (fun c2 => ?_)
           ·exact absurd rfl c2
           ·refine sk ?_
            refine sq ?_
            refine rg ?_
            refine st (h := O) ?_
            refine nl ?_
            iterate 2 (refine sq ?_)
            refine rg ?_
            refine st (h := O) ?_
            refine nl ?_
            refine bl ?_
            refine J.loop1 (α := Nat) (fun i => i ≤ ats.length) (fun i => [(11, .int .i64 (prevA ats i)), (12, .int .i64 i)]) [(0, _), (4, _), (7, _), (9, _)] (fun i => []) [(4, _), (7, _)] (fun i => ats.length - i) (0) (by exact ⟨rfl, rfl, trivial⟩) (by exact ⟨rfl, rfl, rfl, rfl, trivial⟩) (by exact ⟨rfl, rfl, rfl, rfl, trivial⟩) ?_ ?_
            · exact Nat.zero_le _
            ·intro i L1 K1 e1 e2 hI
             dsimp only [apV, apR, List.cons_append, List.nil_append] at e1 e2
             subst e1 e2
             iterate 2 (refine sq ?_)
             refine rg ?_
             iterate 4 (refine st (h := O) ?_)
             refine nl ?_
             refine cD (fun c3 => ?_) (fun c3 => ?_)
             ·have hil : i < ats.length := by omega
              have hln := hch i hil
              have hlt := lineB_facts hln
              obtain ⟨ho, f1, f2, f3, f4, f5, hms⟩ := ln_facts hm hln
              have hov := hov i hil
              obtain ⟨lb, lo, y, yp, ypc, rfl, hy, h3, _, _⟩ := hlr i (by rw [hnl]; exact hil)
              obtain rfl : lnAt l ats xw (al % 4) i = y := by rw [linesN_get hil] at hy; exact Option.some.inj hy
              obtain ⟨ab, ao, rfl, har⟩ := hx0.rd (by omega)
              have q1 : look (((F.add Y).add Y1).add Y2) ⟨ab, ao + (i : Int).toNat * 1, none⟩ = some (.int .i64 (ints ats i)) := by
                rw [Int.toNat_natCast, Nat.mul_one]
                exact hN2.le _ _ (hN1.le _ _ (har _ _ (ints_get hil)))
              rw [show lo + i * 3 = lo + (i : Int).toNat * 3 from rfl] at h3
              have k1 : look (((F.add Y).add Y1).add Y2) ⟨lb, lo + (i : Int).toNat * 3 + 1, none⟩ = some (.bool (lnAt l ats xw (al % 4) i).over) := lookN_at h3 1 rfl
              rw [ho] at k1
              have hm2 := hm
              simp only [mayB, decide_eq_true_eq] at hm2
              refine sk ?_
              refine sq ?_
              refine bl ?_
              iterate 2 (refine sq ?_)
              refine J.cut1 (α := Bool) (fun q => q = false) (fun q => [(87, .bool q)]) [(0, _), (4, _), (7, _), (9, _), (11, _), (12, _)] (fun q => []) [(4, _), (7, _)] (by exact ⟨rfl, rfl, rfl, rfl, rfl, rfl, trivial⟩) (by exact ⟨rfl, rfl, rfl, rfl, trivial⟩) ?_ ?_
              ·refine rg ?_
               refine st (h := sdFA) ?_
               refine st (h := sdL) ?_
               refine st (h := O) ?_
               refine gB (fun g81 => ?_) (fun g81 => ?_)
               ·refine sg (h := O) ?_
                refine sg (h := O) ?_
                refine sg (h := (sdX (z := 3))) ?_
                refine sg (h := sdFA) ?_
                refine sg (h := sdL) ?_
                refine st (h := O) ?_
                refine nl ?_
                refine ck1 (_) (by exact ⟨rfl, trivial⟩) (by exact ⟨rfl, rfl, rfl, rfl, rfl, rfl, trivial⟩) (by exact ⟨rfl, rfl, rfl, rfl, trivial⟩) ?_
                first
                  | rfl
                  | (rw [decide_eq_false_iff_not]; intro h9; have h8 := (hov h9).1; rw [h8] at g81; cases g81)
                  | (simp at *; done)
                  | (exfalso; simp at *; omega)
               ·refine sp ?_
                iterate 4 (refine sp ?_)
                refine st (h := O) ?_
                refine nl ?_
                refine ck1 (_) (by exact ⟨rfl, trivial⟩) (by exact ⟨rfl, rfl, rfl, rfl, rfl, rfl, trivial⟩) (by exact ⟨rfl, rfl, rfl, rfl, trivial⟩) ?_
                first
                  | rfl
                  | (rw [decide_eq_false_iff_not]; intro h9; have h8 := (hov h9).1; rw [h8] at g81; cases g81)
                  | (simp at *; done)
                  | (exfalso; simp at *; omega)
              ·intro q L1 K1 e1 e2 hI
               dsimp only [List.cons_append, List.nil_append] at e1 e2
               subst e1 e2
               subst hI
               refine cB (fun c4 => ?_) (fun c4 => ?_)
               ·cases c4
               ·refine sk ?_
                iterate 2 (refine sq ?_)
                refine J.cut1 (α := Bool) (fun q => q = true → mZ l (prevA ats i + 1).toNat (ints ats i).toNat < -(xw - mW l (prevA ats i + 1).toNat (ints ats i).toNat)) (fun q => [(97, .bool q)]) [(0, _), (4, _), (7, _), (9, _), (11, _), (12, _)] (fun q => []) [(4, _), (7, _)] (by exact ⟨rfl, rfl, rfl, rfl, rfl, rfl, trivial⟩) (by exact ⟨rfl, rfl, rfl, rfl, trivial⟩) ?_ ?_
                ·refine rg ?_
                 refine st (h := sdFA) ?_
                 refine st (h := sdL) ?_
                 iterate 2 (refine st (h := O) ?_)
                 refine gB (fun g91 => ?_) (fun g91 => ?_)
                 ·refine sg (h := O) ?_
                  refine sg (h := O) ?_
                  refine sg (h := (sdX (z := 3))) ?_
                  refine sg (h := sdFA) ?_
                  refine sg (h := sdL) ?_
                  refine st (h := O) ?_
                  refine nl ?_
                  refine ck1 (_) (by exact ⟨rfl, trivial⟩) (by exact ⟨rfl, rfl, rfl, rfl, rfl, rfl, trivial⟩) (by exact ⟨rfl, rfl, rfl, rfl, trivial⟩) ?_
                  first
                    | (intro h9; cases h9; done)
                    | (intro h9; simp at h9; omega)
                 ·refine sp ?_
                  iterate 4 (refine sp ?_)
                  refine st (h := O) ?_
                  refine nl ?_
                  refine ck1 (_) (by exact ⟨rfl, trivial⟩) (by exact ⟨rfl, rfl, rfl, rfl, rfl, rfl, trivial⟩) (by exact ⟨rfl, rfl, rfl, rfl, trivial⟩) ?_
                  first
                    | (intro h9; cases h9; done)
                    | (intro h9; simp at h9; omega)
                ·intro q L1 K1 e1 e2 hI
                 dsimp only [List.cons_append, List.nil_append] at e1 e2
                 subst e1 e2
                 have hI15 := hI
                 refine cB (fun c5 => ?_) (fun c5 => ?_)
                 ·refine sq ?_
                  refine rg ?_
                  refine st (h := O) ?_
                  refine st (h := sdA) ?_
                  refine st (h := O) ?_
                  refine nl ?_
                  refine bl ?_
                  refine J.loop1 (α := Int) (fun k => prevA ats i < k ∧ k ≤ l.length) (fun k => [(13, .int .i64 k)]) [(0, _), (4, _), (7, _), (9, _), (11, _), (12, _)] (fun k => []) [(4, _), (7, _)] (fun k => (l.length - k).toNat) (prevA ats i + 1) (by exact ⟨rfl, trivial⟩) (by exact ⟨rfl, rfl, rfl, rfl, rfl, rfl, trivial⟩) (by exact ⟨rfl, rfl, rfl, rfl, trivial⟩) ?_ ?_
                  · omega
                  ·intro k L1 K1 e1 e2 hI
                   dsimp only [apV, apR, List.cons_append, List.nil_append] at e1 e2
                   subst e1 e2
                   iterate 2 (refine sq ?_)
                   refine rg ?_
                   iterate 4 (refine st (h := O) ?_)
                   refine nl ?_
                   refine cD (fun c6 => ?_) (fun c6 => ?_)
                   ·refine sk ?_
                    refine sq ?_
                    refine bl ?_
                    refine sq ?_
                    refine rg ?_
                    iterate 3 (refine st (h := O) ?_)
                    refine cl (h := by exact fun ι hV hl => (R24Measure_C _ _ l _ _ (hv2'.le hl)).ofR (argC (hvb.rV ι _ _) rfl)) ?_
                    obtain ⟨⟨m1, m2⟩, m3, m4⟩ := measD_bd (l := l) (a := prevA ats i) (b := k)
                    iterate 7 (refine st (h := O) ?_)
                    refine nl ?_
                    refine sq ?_
                    refine J.cut1 (α := Bool) (fun q => q = false) (fun q => [(133, .bool q)]) [(0, _), (4, _), (7, _), (9, _), (11, _), (12, _), (13, _)] (fun q => []) [(4, _), (7, _)] (by exact ⟨rfl, rfl, rfl, rfl, rfl, rfl, rfl, trivial⟩) (by exact ⟨rfl, rfl, rfl, rfl, trivial⟩) ?_ ?_
                    ·refine rg ?_
                     iterate 2 (refine st (h := O) ?_)
                     refine cl (h := by exact fun ι hV hl => (R24Legal_C _ _ l k (hv2'.le hl)).ofR (argC (hvb.rV ι _ _) rfl)) ?_
                     refine st (h := O) ?_
                     refine gB (fun g117 => ?_) (fun g117 => ?_)
                     ·refine sg (h := O) ?_
                      refine sg (h := O) ?_
                      refine sg (h := sdS) ?_
                      refine sg (h := sdFA) ?_
                      refine sg (h := sdL) ?_
                      refine sg (h := O) ?_
                      iterate 2 (refine st (h := O) ?_)
                      refine gD (fun g125 => ?_) (fun g125 => ?_)
                      ·refine sg (h := O) ?_
                       refine sg (h := sdFA) ?_
                       refine sg (h := sdL) ?_
                       refine sg (h := O) ?_
                       refine sg (h := (sdX (z := 1))) ?_
                       refine sg (h := (by first | exact sdLG | exact sdW)) ?_
                       refine sg (h := O) ?_
                       refine st (h := O) ?_
                       refine nl ?_
                       refine ck1 (_) (by exact ⟨rfl, trivial⟩) (by exact ⟨rfl, rfl, rfl, rfl, rfl, rfl, rfl, trivial⟩) (by exact ⟨rfl, rfl, rfl, rfl, trivial⟩) ?_
                       first
                         | rfl
                         | (rw [decide_eq_false_iff_not]; exact room_in hg hln (hov (hI15 c5)).2 hI.1 g117 g125)
                         | (simp at *; done)
                         | (exfalso; simp at *; omega)
                      ·refine sp ?_
                       iterate 6 (refine sp ?_)
                       refine st (h := O) ?_
                       refine nl ?_
                       refine ck1 (_) (by exact ⟨rfl, trivial⟩) (by exact ⟨rfl, rfl, rfl, rfl, rfl, rfl, rfl, trivial⟩) (by exact ⟨rfl, rfl, rfl, rfl, trivial⟩) ?_
                       first
                         | rfl
                         | (rw [decide_eq_false_iff_not]; exact room_in hg hln (hov (hI15 c5)).2 hI.1 g117 g125)
                         | (simp at *; done)
                         | (exfalso; simp at *; omega)
                     ·refine sp ?_
                      iterate 5 (refine sp ?_)
                      iterate 2 (refine st (h := O) ?_)
                      iterate 7 (refine sp ?_)
                      refine st (h := O) ?_
                      refine nl ?_
                      refine ck1 (_) (by exact ⟨rfl, trivial⟩) (by exact ⟨rfl, rfl, rfl, rfl, rfl, rfl, rfl, trivial⟩) (by exact ⟨rfl, rfl, rfl, rfl, trivial⟩) ?_
                      first
                        | rfl
                        | (rw [decide_eq_false_iff_not]; exact room_in hg hln (hov (hI15 c5)).2 hI.1 g117 g125)
                        | (simp at *; done)
                        | (exfalso; simp at *; omega)
                    ·intro q L1 K1 e1 e2 hI
                     dsimp only [List.cons_append, List.nil_append] at e1 e2
                     subst e1 e2
                     subst hI
                     refine cB (fun c7 => ?_) (fun c7 => ?_)
                     ·cases c7
                     ·refine sk ?_
                      refine bk ?_
                      refine rg ?_
                      refine st (h := O) ?_
                      refine st (h := sdA) ?_
                      refine st (h := O) ?_
                      refine nl ?_
                      refine bk1 (k + 1) (by exact ⟨rfl, trivial⟩) (by exact ⟨rfl, rfl, rfl, rfl, rfl, rfl, trivial⟩) (by exact ⟨rfl, rfl, rfl, rfl, trivial⟩) ?_ ?_
                      · omega
                      · omega
                   ·refine ex ?_
                    refine rg ?_
                    refine st (h := sdFA) ?_
                    refine st (h := sdL) ?_
                    refine st (h := O) ?_
                    refine st (h := (sdX (z := 1))) ?_
                    refine st (h := (by first | exact sdLG | exact sdW)) ?_
                    refine st (h := O) ?_
                    refine nl ?_
                    refine bk ?_
                    refine rg ?_
                    refine st (h := O) ?_
                    refine st (h := sdA) ?_
                    refine st (h := O) ?_
                    refine nl ?_
                    refine bk1 (i + 1) (by exact ⟨rfl, rfl, trivial⟩) (by exact ⟨rfl, rfl, rfl, rfl, trivial⟩) (by exact ⟨rfl, rfl, rfl, rfl, trivial⟩) ?_ ?_
                    · omega
                    · omega
                 ·refine sk ?_
                  refine rg ?_
                  refine st (h := sdFA) ?_
                  refine st (h := sdL) ?_
                  refine st (h := O) ?_
                  refine st (h := (sdX (z := 1))) ?_
                  refine st (h := (by first | exact sdLG | exact sdW)) ?_
                  refine st (h := O) ?_
                  refine nl ?_
                  refine bk ?_
                  refine rg ?_
                  refine st (h := O) ?_
                  refine st (h := sdA) ?_
                  refine st (h := O) ?_
                  refine nl ?_
                  refine bk1 (i + 1) (by exact ⟨rfl, rfl, trivial⟩) (by exact ⟨rfl, rfl, rfl, rfl, trivial⟩) (by exact ⟨rfl, rfl, rfl, rfl, trivial⟩) ?_ ?_
                  · omega
                  · omega
             ·refine ex ?_
              refine sq ?_
              refine rg ?_
              refine cl (h := by exact fun ι hV hl => wakes25_C _) ?_
              refine st (h := O) ?_
              refine nl ?_
              repeat refine J.dropF ?_
              first
                | exact rt ⟨rfl, rfl⟩
                | (exfalso; rcases z4 with z4 | z4; (simp [z4] at g55); (exact absurd z4 g60))
                | (exfalso; simp at *; done)
                | (exfalso; simp at *; omega)
    ·refine jsl (hkp := by first | exact Kept.all | exact Kept.k0 | exact Kept.kY | exact Kept.kYY | exact Kept.kY3) (hL := by first | (simp [ntL, ntV, nt2, argL, nt1_i, nt1_b, nt1_o, nt1_p, cellsL, zer, hvb.nt, hca.nt, hx0.pl.nt]; done) | (simp [ntL, ntV, nt2, argL, nt1_i, nt1_b, nt1_o, nt1_p, cellsL, zer, hvb.nt, hx0.pl.nt]; done)) (hK := by simp [ntK, cellsL, zer, nt1_i, nt1_b, hx0.pl.nt]) ?_
     refine dclC (hkp := by first | exact Kept.all | exact Kept.k0 | exact Kept.kY | exact Kept.kYY | exact Kept.kY3) (h := by exact fun ι hV hl => (CopyC_C _ _ l (hv0.le hl) (by omega) hgl).ofR (arg1 (hvb.rV ι _ _))) ?_
     intro u1 Y1 hQ1 hv1 hp1 hN1
     obtain ⟨hs1, hcap1, hI1⟩ := hQ1
     have hI1 := hI1 _ hN1.rows
     obtain ⟨ca, cc, hca, rfl⟩ := hI1.opl
     refine dapA0 1 500021 31 ((hx0.le hN1.le).app wc) (ivs_pl _) ?_ (hL := by simp [ntL, ntV, nt2, argL, nt1_i, nt1_b, nt1_o, nt1_p, cellsL, zer, hvb.nt, hx0.pl.nt, hca.nt]) (hK := by simp [ntK, cellsL, zer, nt1_i, nt1_b, hx0.pl.nt])
     intro cap21 hc21 hd21
     refine dcl (hkp := by first | exact Kept.all | exact Kept.k0 | exact Kept.kY | exact Kept.kYY | exact Kept.kY3) (h := by exact fun ι hV hl => Mod_C _ al hal) ?_
     refine dclC (hkp := by first | exact Kept.all | exact Kept.k0 | exact Kept.kY | exact Kept.kYY | exact Kept.kY3) (h := by exact fun ι hV hl => (Set_C _ _ (some ⟨ι 500021, 0, none⟩) cap21 l ats xw (al % 4) (hI1.le hl) (hV.intsX (t := 500021) rfl rfl (by omega)) hcap1 hgl (by omega)).ofR (argC (hca.rV ι _ _) rfl)) ?_
     intro u2 Y2 hQ2 hv2 hp2 hN2
     have hv2' := (hv0.le hN1.le).le hN2.le
     rcases hrf with ⟨z1, z2, z3, z4⟩ | ⟨z1, hg, hm, e, hch, hov⟩
     · obtain ⟨lv, hu, hlv, hR2⟩ := hQ2
       rw [z2] at hR2
       have hS2 := hR2 _ hN2.rows
       obtain ⟨pa, pc, hpa, e3, h63, hlr⟩ := ln_at hS2
       subst e3
       subst hu
       iterate 5 (refine dt (hv := by exact O) ?_)
       refine dn ?_
       iterate 2 (refine sq ?_)
       refine rg ?_
       iterate 2 (refine st (h := O) ?_)
       refine nl ?_
       refine cN (fun c1 => ?_) (fun c1 => ?_)
       ·try (exact absurd z1 c1)
        all_goals
          refine sq ?_
          refine rg ?_
          iterate 3 (refine st (h := O) ?_)
          refine gN (fun g46 => ?_) (fun g46 => ?_)
          ·refine sg (h := O) ?_
           iterate 2 (refine sg (h := O) ?_)
           iterate 2 (refine st (h := O) ?_)
           refine gD (fun g51 => ?_) (fun g51 => ?_)
           ·refine sg (h := O) ?_
            refine clg (h := by exact fun ι hV hl => (RGood_C _ _ l (hv2'.le hl)).ofR (arg1 (hvb.rV ι _ _))) ?_
            iterate 2 (refine sg (h := O) ?_)
            refine gB (fun g55 => ?_) (fun g55 => ?_)
            ·refine sp ?_
             refine sp ?_
             refine sg (h := O) ?_
             iterate 2 (refine st (h := O) ?_)
             refine clg (h := by exact fun ι hV hl => wakes25_C _) ?_
             iterate 2 (refine st (h := O) ?_)
             refine nl ?_
             repeat refine J.dropF ?_
             first
               | exact rt ⟨rfl, rfl⟩
               | (exfalso; rcases z4 with z4 | z4; (simp [z4] at g55); (exact absurd z4 g60))
               | (exfalso; simp at *; done)
               | (exfalso; simp at *; omega)
            ·refine sg (h := O) ?_
             iterate 2 (refine sg (h := O) ?_)
             iterate 2 (refine st (h := O) ?_)
             refine gD (fun g60 => ?_) (fun g60 => ?_)
             ·refine clg (h := by exact fun ι hV hl => wakes25_C _) ?_
              iterate 2 (refine st (h := O) ?_)
              refine nl ?_
              repeat refine J.dropF ?_
              first
                | exact rt ⟨rfl, rfl⟩
                | (exfalso; rcases z4 with z4 | z4; (simp [z4] at g55); (exact absurd z4 g60))
                | (exfalso; simp at *; done)
                | (exfalso; simp at *; omega)
             ·refine sp ?_
              iterate 2 (refine st (h := O) ?_)
              refine nl ?_
              repeat refine J.dropF ?_
              first
                | exact rt ⟨rfl, rfl⟩
                | (exfalso; rcases z4 with z4 | z4; (simp [z4] at g55); (exact absurd z4 g60))
                | (exfalso; simp at *; done)
                | (exfalso; simp at *; omega)
           ·refine sp ?_
            iterate 3 (refine sp ?_)
            iterate 2 (refine su ?_)
            refine sp ?_
            iterate 2 (refine st (h := O) ?_)
            refine sp ?_
            iterate 2 (refine st (h := O) ?_)
            refine nl ?_
            repeat refine J.dropF ?_
            first
              | exact rt ⟨rfl, rfl⟩
              | (exfalso; rcases z4 with z4 | z4; (simp [z4] at g55); (exact absurd z4 g60))
              | (exfalso; simp at *; done)
              | (exfalso; simp at *; omega)
          ·refine sp ?_
           iterate 2 (refine sp ?_)
           iterate 2 (refine st (h := O) ?_)
           iterate 4 (refine sp ?_)
           iterate 2 (refine su ?_)
           refine sp ?_
           iterate 2 (refine st (h := O) ?_)
           refine sp ?_
           iterate 2 (refine st (h := O) ?_)
           refine nl ?_
           repeat refine J.dropF ?_
           first
             | exact rt ⟨rfl, rfl⟩
             | (exfalso; rcases z4 with z4 | z4; (simp [z4] at g55); (exact absurd z4 g60))
             | (exfalso; simp at *; done)
             | (exfalso; simp at *; omega)
       ·try (exact absurd c1 z1)
        all_goals
          refine sk ?_
          iterate 2 (refine sq ?_)
          refine rg ?_
          iterate 3 (refine st (h := O) ?_)
          refine gN (fun g65 => ?_) (fun g65 => ?_)
          ·refine sp ?_
           iterate 5 (refine sp ?_)
           refine st (h := O) ?_
           refine nl ?_
           refine cT ?_
           refine sq ?_
           refine rg ?_
           refine st (h := O) ?_
           refine nl ?_
           repeat refine J.dropF ?_
           first
             | exact rt ⟨rfl, rfl⟩
             | (exfalso; rcases z4 with z4 | z4; (simp [z4] at g55); (exact absurd z4 g60))
             | (exfalso; simp at *; done)
             | (exfalso; simp at *; omega)
          ·refine sg (h := O) ?_
           refine sg (h := O) ?_
           refine sg (h := sdFA) ?_
           refine sg (h := sdL) ?_
           iterate 2 (refine sg (h := O) ?_)
           refine st (h := O) ?_
           refine nl ?_
           refine cN (fun c2 => ?_) (fun c2 => ?_)
           ·exact absurd rfl c2
           ·refine sk ?_
            refine sq ?_
            refine rg ?_
            refine st (h := O) ?_
            refine nl ?_
            iterate 2 (refine sq ?_)
            refine rg ?_
            refine st (h := O) ?_
            refine nl ?_
            refine bl ?_
            refine J.loop1 (α := Nat) (fun i => i ≤ ats.length) (fun i => [(11, .int .i64 (prevA ats i)), (12, .int .i64 i)]) [(0, _), (4, _), (7, _), (9, _)] (fun i => []) [(4, _), (7, _)] (fun i => ats.length - i) (0) (by exact ⟨rfl, rfl, trivial⟩) (by exact ⟨rfl, rfl, rfl, rfl, trivial⟩) (by exact ⟨rfl, rfl, rfl, rfl, trivial⟩) ?_ ?_
            · exact Nat.zero_le _
            ·intro i L1 K1 e1 e2 hI
             dsimp only [apV, apR, List.cons_append, List.nil_append] at e1 e2
             subst e1 e2
             iterate 2 (refine sq ?_)
             refine rg ?_
             iterate 4 (refine st (h := O) ?_)
             refine nl ?_
             refine cD (fun c3 => ?_) (fun c3 => ?_)
             ·have hil : i < ats.length := by omega
              have hln := hch i hil
              have hlt := lineB_facts hln
              obtain ⟨ho, f1, f2, f3, f4, f5, hms⟩ := ln_facts hm hln
              have hov := hov i hil
              obtain ⟨lb, lo, y, yp, ypc, rfl, hy, h3, _, _⟩ := hlr i (by rw [hnl]; exact hil)
              obtain rfl : lnAt l ats xw (al % 4) i = y := by rw [linesN_get hil] at hy; exact Option.some.inj hy
              obtain ⟨ab, ao, rfl, har⟩ := hx0.rd (by omega)
              have q1 : look (((F.add Y).add Y1).add Y2) ⟨ab, ao + (i : Int).toNat * 1, none⟩ = some (.int .i64 (ints ats i)) := by
                rw [Int.toNat_natCast, Nat.mul_one]
                exact hN2.le _ _ (hN1.le _ _ (har _ _ (ints_get hil)))
              rw [show lo + i * 3 = lo + (i : Int).toNat * 3 from rfl] at h3
              have k1 : look (((F.add Y).add Y1).add Y2) ⟨lb, lo + (i : Int).toNat * 3 + 1, none⟩ = some (.bool (lnAt l ats xw (al % 4) i).over) := lookN_at h3 1 rfl
              rw [ho] at k1
              have hm2 := hm
              simp only [mayB, decide_eq_true_eq] at hm2
              refine sk ?_
              refine sq ?_
              refine bl ?_
              iterate 2 (refine sq ?_)
              refine J.cut1 (α := Bool) (fun q => q = false) (fun q => [(87, .bool q)]) [(0, _), (4, _), (7, _), (9, _), (11, _), (12, _)] (fun q => []) [(4, _), (7, _)] (by exact ⟨rfl, rfl, rfl, rfl, rfl, rfl, trivial⟩) (by exact ⟨rfl, rfl, rfl, rfl, trivial⟩) ?_ ?_
              ·refine rg ?_
               refine st (h := sdFA) ?_
               refine st (h := sdL) ?_
               refine st (h := O) ?_
               refine gB (fun g81 => ?_) (fun g81 => ?_)
               ·refine sg (h := O) ?_
                refine sg (h := O) ?_
                refine sg (h := (sdX (z := 3))) ?_
                refine sg (h := sdFA) ?_
                refine sg (h := sdL) ?_
                refine st (h := O) ?_
                refine nl ?_
                refine ck1 (_) (by exact ⟨rfl, trivial⟩) (by exact ⟨rfl, rfl, rfl, rfl, rfl, rfl, trivial⟩) (by exact ⟨rfl, rfl, rfl, rfl, trivial⟩) ?_
                first
                  | rfl
                  | (rw [decide_eq_false_iff_not]; intro h9; have h8 := (hov h9).1; rw [h8] at g81; cases g81)
                  | (simp at *; done)
                  | (exfalso; simp at *; omega)
               ·refine sp ?_
                iterate 4 (refine sp ?_)
                refine st (h := O) ?_
                refine nl ?_
                refine ck1 (_) (by exact ⟨rfl, trivial⟩) (by exact ⟨rfl, rfl, rfl, rfl, rfl, rfl, trivial⟩) (by exact ⟨rfl, rfl, rfl, rfl, trivial⟩) ?_
                first
                  | rfl
                  | (rw [decide_eq_false_iff_not]; intro h9; have h8 := (hov h9).1; rw [h8] at g81; cases g81)
                  | (simp at *; done)
                  | (exfalso; simp at *; omega)
              ·intro q L1 K1 e1 e2 hI
               dsimp only [List.cons_append, List.nil_append] at e1 e2
               subst e1 e2
               subst hI
               refine cB (fun c4 => ?_) (fun c4 => ?_)
               ·cases c4
               ·refine sk ?_
                iterate 2 (refine sq ?_)
                refine J.cut1 (α := Bool) (fun q => q = true → mZ l (prevA ats i + 1).toNat (ints ats i).toNat < -(xw - mW l (prevA ats i + 1).toNat (ints ats i).toNat)) (fun q => [(97, .bool q)]) [(0, _), (4, _), (7, _), (9, _), (11, _), (12, _)] (fun q => []) [(4, _), (7, _)] (by exact ⟨rfl, rfl, rfl, rfl, rfl, rfl, trivial⟩) (by exact ⟨rfl, rfl, rfl, rfl, trivial⟩) ?_ ?_
                ·refine rg ?_
                 refine st (h := sdFA) ?_
                 refine st (h := sdL) ?_
                 iterate 2 (refine st (h := O) ?_)
                 refine gB (fun g91 => ?_) (fun g91 => ?_)
                 ·refine sg (h := O) ?_
                  refine sg (h := O) ?_
                  refine sg (h := (sdX (z := 3))) ?_
                  refine sg (h := sdFA) ?_
                  refine sg (h := sdL) ?_
                  refine st (h := O) ?_
                  refine nl ?_
                  refine ck1 (_) (by exact ⟨rfl, trivial⟩) (by exact ⟨rfl, rfl, rfl, rfl, rfl, rfl, trivial⟩) (by exact ⟨rfl, rfl, rfl, rfl, trivial⟩) ?_
                  first
                    | (intro h9; cases h9; done)
                    | (intro h9; simp at h9; omega)
                 ·refine sp ?_
                  iterate 4 (refine sp ?_)
                  refine st (h := O) ?_
                  refine nl ?_
                  refine ck1 (_) (by exact ⟨rfl, trivial⟩) (by exact ⟨rfl, rfl, rfl, rfl, rfl, rfl, trivial⟩) (by exact ⟨rfl, rfl, rfl, rfl, trivial⟩) ?_
                  first
                    | (intro h9; cases h9; done)
                    | (intro h9; simp at h9; omega)
                ·intro q L1 K1 e1 e2 hI
                 dsimp only [List.cons_append, List.nil_append] at e1 e2
                 subst e1 e2
                 have hI15 := hI
                 refine cB (fun c5 => ?_) (fun c5 => ?_)
                 ·refine sq ?_
                  refine rg ?_
                  refine st (h := O) ?_
                  refine st (h := sdA) ?_
                  refine st (h := O) ?_
                  refine nl ?_
                  refine bl ?_
                  refine J.loop1 (α := Int) (fun k => prevA ats i < k ∧ k ≤ l.length) (fun k => [(13, .int .i64 k)]) [(0, _), (4, _), (7, _), (9, _), (11, _), (12, _)] (fun k => []) [(4, _), (7, _)] (fun k => (l.length - k).toNat) (prevA ats i + 1) (by exact ⟨rfl, trivial⟩) (by exact ⟨rfl, rfl, rfl, rfl, rfl, rfl, trivial⟩) (by exact ⟨rfl, rfl, rfl, rfl, trivial⟩) ?_ ?_
                  · omega
                  ·intro k L1 K1 e1 e2 hI
                   dsimp only [apV, apR, List.cons_append, List.nil_append] at e1 e2
                   subst e1 e2
                   iterate 2 (refine sq ?_)
                   refine rg ?_
                   iterate 4 (refine st (h := O) ?_)
                   refine nl ?_
                   refine cD (fun c6 => ?_) (fun c6 => ?_)
                   ·refine sk ?_
                    refine sq ?_
                    refine bl ?_
                    refine sq ?_
                    refine rg ?_
                    iterate 3 (refine st (h := O) ?_)
                    refine cl (h := by exact fun ι hV hl => (R24Measure_C _ _ l _ _ (hv2'.le hl)).ofR (argC (hvb.rV ι _ _) rfl)) ?_
                    obtain ⟨⟨m1, m2⟩, m3, m4⟩ := measD_bd (l := l) (a := prevA ats i) (b := k)
                    iterate 7 (refine st (h := O) ?_)
                    refine nl ?_
                    refine sq ?_
                    refine J.cut1 (α := Bool) (fun q => q = false) (fun q => [(133, .bool q)]) [(0, _), (4, _), (7, _), (9, _), (11, _), (12, _), (13, _)] (fun q => []) [(4, _), (7, _)] (by exact ⟨rfl, rfl, rfl, rfl, rfl, rfl, rfl, trivial⟩) (by exact ⟨rfl, rfl, rfl, rfl, trivial⟩) ?_ ?_
                    ·refine rg ?_
                     iterate 2 (refine st (h := O) ?_)
                     refine cl (h := by exact fun ι hV hl => (R24Legal_C _ _ l k (hv2'.le hl)).ofR (argC (hvb.rV ι _ _) rfl)) ?_
                     refine st (h := O) ?_
                     refine gB (fun g117 => ?_) (fun g117 => ?_)
                     ·refine sg (h := O) ?_
                      refine sg (h := O) ?_
                      refine sg (h := sdS) ?_
                      refine sg (h := sdFA) ?_
                      refine sg (h := sdL) ?_
                      refine sg (h := O) ?_
                      iterate 2 (refine st (h := O) ?_)
                      refine gD (fun g125 => ?_) (fun g125 => ?_)
                      ·refine sg (h := O) ?_
                       refine sg (h := sdFA) ?_
                       refine sg (h := sdL) ?_
                       refine sg (h := O) ?_
                       refine sg (h := (sdX (z := 1))) ?_
                       refine sg (h := (by first | exact sdLG | exact sdW)) ?_
                       refine sg (h := O) ?_
                       refine st (h := O) ?_
                       refine nl ?_
                       refine ck1 (_) (by exact ⟨rfl, trivial⟩) (by exact ⟨rfl, rfl, rfl, rfl, rfl, rfl, rfl, trivial⟩) (by exact ⟨rfl, rfl, rfl, rfl, trivial⟩) ?_
                       first
                         | rfl
                         | (rw [decide_eq_false_iff_not]; exact room_in hg hln (hov (hI15 c5)).2 hI.1 g117 g125)
                         | (simp at *; done)
                         | (exfalso; simp at *; omega)
                      ·refine sp ?_
                       iterate 6 (refine sp ?_)
                       refine st (h := O) ?_
                       refine nl ?_
                       refine ck1 (_) (by exact ⟨rfl, trivial⟩) (by exact ⟨rfl, rfl, rfl, rfl, rfl, rfl, rfl, trivial⟩) (by exact ⟨rfl, rfl, rfl, rfl, trivial⟩) ?_
                       first
                         | rfl
                         | (rw [decide_eq_false_iff_not]; exact room_in hg hln (hov (hI15 c5)).2 hI.1 g117 g125)
                         | (simp at *; done)
                         | (exfalso; simp at *; omega)
                     ·refine sp ?_
                      iterate 5 (refine sp ?_)
                      iterate 2 (refine st (h := O) ?_)
                      iterate 7 (refine sp ?_)
                      refine st (h := O) ?_
                      refine nl ?_
                      refine ck1 (_) (by exact ⟨rfl, trivial⟩) (by exact ⟨rfl, rfl, rfl, rfl, rfl, rfl, rfl, trivial⟩) (by exact ⟨rfl, rfl, rfl, rfl, trivial⟩) ?_
                      first
                        | rfl
                        | (rw [decide_eq_false_iff_not]; exact room_in hg hln (hov (hI15 c5)).2 hI.1 g117 g125)
                        | (simp at *; done)
                        | (exfalso; simp at *; omega)
                    ·intro q L1 K1 e1 e2 hI
                     dsimp only [List.cons_append, List.nil_append] at e1 e2
                     subst e1 e2
                     subst hI
                     refine cB (fun c7 => ?_) (fun c7 => ?_)
                     ·cases c7
                     ·refine sk ?_
                      refine bk ?_
                      refine rg ?_
                      refine st (h := O) ?_
                      refine st (h := sdA) ?_
                      refine st (h := O) ?_
                      refine nl ?_
                      refine bk1 (k + 1) (by exact ⟨rfl, trivial⟩) (by exact ⟨rfl, rfl, rfl, rfl, rfl, rfl, trivial⟩) (by exact ⟨rfl, rfl, rfl, rfl, trivial⟩) ?_ ?_
                      · omega
                      · omega
                   ·refine ex ?_
                    refine rg ?_
                    refine st (h := sdFA) ?_
                    refine st (h := sdL) ?_
                    refine st (h := O) ?_
                    refine st (h := (sdX (z := 1))) ?_
                    refine st (h := (by first | exact sdLG | exact sdW)) ?_
                    refine st (h := O) ?_
                    refine nl ?_
                    refine bk ?_
                    refine rg ?_
                    refine st (h := O) ?_
                    refine st (h := sdA) ?_
                    refine st (h := O) ?_
                    refine nl ?_
                    refine bk1 (i + 1) (by exact ⟨rfl, rfl, trivial⟩) (by exact ⟨rfl, rfl, rfl, rfl, trivial⟩) (by exact ⟨rfl, rfl, rfl, rfl, trivial⟩) ?_ ?_
                    · omega
                    · omega
                 ·refine sk ?_
                  refine rg ?_
                  refine st (h := sdFA) ?_
                  refine st (h := sdL) ?_
                  refine st (h := O) ?_
                  refine st (h := (sdX (z := 1))) ?_
                  refine st (h := (by first | exact sdLG | exact sdW)) ?_
                  refine st (h := O) ?_
                  refine nl ?_
                  refine bk ?_
                  refine rg ?_
                  refine st (h := O) ?_
                  refine st (h := sdA) ?_
                  refine st (h := O) ?_
                  refine nl ?_
                  refine bk1 (i + 1) (by exact ⟨rfl, rfl, trivial⟩) (by exact ⟨rfl, rfl, rfl, rfl, trivial⟩) (by exact ⟨rfl, rfl, rfl, rfl, trivial⟩) ?_ ?_
                  · omega
                  · omega
             ·refine ex ?_
              refine sq ?_
              refine rg ?_
              refine cl (h := by exact fun ι hV hl => wakes25_C _) ?_
              refine st (h := O) ?_
              refine nl ?_
              repeat refine J.dropF ?_
              first
                | exact rt ⟨rfl, rfl⟩
                | (exfalso; rcases z4 with z4 | z4; (simp [z4] at g55); (exact absurd z4 g60))
                | (exfalso; simp at *; done)
                | (exfalso; simp at *; omega)
     · rw [e] at hQ2
       obtain ⟨lv, hu, hlv, hR2⟩ := hQ2
       dsimp only at hu hR2
       have hS2 := hR2 _ hN2.rows
       obtain ⟨pa, pc, hpa, e3, h63, hlr⟩ := ln_at hS2
       have hnl : (linesN l ats xw (al % 4) ats.length).length = ats.length := by simp [linesN]
       rw [hnl] at e3
       subst e3
       subst hu
       iterate 5 (refine dt (hv := by exact O) ?_)
       refine dn ?_
       iterate 2 (refine sq ?_)
       refine rg ?_
       iterate 2 (refine st (h := O) ?_)
       refine nl ?_
       refine cN (fun c1 => ?_) (fun c1 => ?_)
       ·try (exact absurd z1 c1)
        all_goals
          refine sq ?_
          refine rg ?_
          iterate 3 (refine st (h := O) ?_)
          refine gN (fun g46 => ?_) (fun g46 => ?_)
          ·refine sg (h := O) ?_
           iterate 2 (refine sg (h := O) ?_)
           iterate 2 (refine st (h := O) ?_)
           refine gD (fun g51 => ?_) (fun g51 => ?_)
           ·refine sg (h := O) ?_
            refine clg (h := by exact fun ι hV hl => (RGood_C _ _ l (hv2'.le hl)).ofR (arg1 (hvb.rV ι _ _))) ?_
            iterate 2 (refine sg (h := O) ?_)
            refine gB (fun g55 => ?_) (fun g55 => ?_)
            ·refine sp ?_
             refine sp ?_
             refine sg (h := O) ?_
             iterate 2 (refine st (h := O) ?_)
             refine clg (h := by exact fun ι hV hl => wakes25_C _) ?_
             iterate 2 (refine st (h := O) ?_)
             refine nl ?_
             repeat refine J.dropF ?_
             first
               | exact rt ⟨rfl, rfl⟩
               | (exfalso; rcases z4 with z4 | z4; (simp [z4] at g55); (exact absurd z4 g60))
               | (exfalso; simp at *; done)
               | (exfalso; simp at *; omega)
            ·refine sg (h := O) ?_
             iterate 2 (refine sg (h := O) ?_)
             iterate 2 (refine st (h := O) ?_)
             refine gD (fun g60 => ?_) (fun g60 => ?_)
             ·refine clg (h := by exact fun ι hV hl => wakes25_C _) ?_
              iterate 2 (refine st (h := O) ?_)
              refine nl ?_
              repeat refine J.dropF ?_
              first
                | exact rt ⟨rfl, rfl⟩
                | (exfalso; rcases z4 with z4 | z4; (simp [z4] at g55); (exact absurd z4 g60))
                | (exfalso; simp at *; done)
                | (exfalso; simp at *; omega)
             ·refine sp ?_
              iterate 2 (refine st (h := O) ?_)
              refine nl ?_
              repeat refine J.dropF ?_
              first
                | exact rt ⟨rfl, rfl⟩
                | (exfalso; rcases z4 with z4 | z4; (simp [z4] at g55); (exact absurd z4 g60))
                | (exfalso; simp at *; done)
                | (exfalso; simp at *; omega)
           ·refine sp ?_
            iterate 3 (refine sp ?_)
            iterate 2 (refine su ?_)
            refine sp ?_
            iterate 2 (refine st (h := O) ?_)
            refine sp ?_
            iterate 2 (refine st (h := O) ?_)
            refine nl ?_
            repeat refine J.dropF ?_
            first
              | exact rt ⟨rfl, rfl⟩
              | (exfalso; rcases z4 with z4 | z4; (simp [z4] at g55); (exact absurd z4 g60))
              | (exfalso; simp at *; done)
              | (exfalso; simp at *; omega)
          ·refine sp ?_
           iterate 2 (refine sp ?_)
           iterate 2 (refine st (h := O) ?_)
           iterate 4 (refine sp ?_)
           iterate 2 (refine su ?_)
           refine sp ?_
           iterate 2 (refine st (h := O) ?_)
           refine sp ?_
           iterate 2 (refine st (h := O) ?_)
           refine nl ?_
           repeat refine J.dropF ?_
           first
             | exact rt ⟨rfl, rfl⟩
             | (exfalso; rcases z4 with z4 | z4; (simp [z4] at g55); (exact absurd z4 g60))
             | (exfalso; simp at *; done)
             | (exfalso; simp at *; omega)
       ·try (exact absurd c1 z1)
        all_goals
          refine sk ?_
          iterate 2 (refine sq ?_)
          refine rg ?_
          iterate 3 (refine st (h := O) ?_)
          refine gN (fun g65 => ?_) (fun g65 => ?_)
          ·refine sp ?_
           iterate 5 (refine sp ?_)
           refine st (h := O) ?_
           refine nl ?_
           refine cT ?_
           refine sq ?_
           refine rg ?_
           refine st (h := O) ?_
           refine nl ?_
           repeat refine J.dropF ?_
           first
             | exact rt ⟨rfl, rfl⟩
             | (exfalso; rcases z4 with z4 | z4; (simp [z4] at g55); (exact absurd z4 g60))
             | (exfalso; simp at *; done)
             | (exfalso; simp at *; omega)
          ·refine sg (h := O) ?_
           refine sg (h := O) ?_
           refine sg (h := sdFA) ?_
           refine sg (h := sdL) ?_
           iterate 2 (refine sg (h := O) ?_)
           refine st (h := O) ?_
           refine nl ?_
           refine cN (fun c2 => ?_) (fun c2 => ?_)
           ·exact absurd rfl c2
           ·refine sk ?_
            refine sq ?_
            refine rg ?_
            refine st (h := O) ?_
            refine nl ?_
            iterate 2 (refine sq ?_)
            refine rg ?_
            refine st (h := O) ?_
            refine nl ?_
            refine bl ?_
            refine J.loop1 (α := Nat) (fun i => i ≤ ats.length) (fun i => [(11, .int .i64 (prevA ats i)), (12, .int .i64 i)]) [(0, _), (4, _), (7, _), (9, _)] (fun i => []) [(4, _), (7, _)] (fun i => ats.length - i) (0) (by exact ⟨rfl, rfl, trivial⟩) (by exact ⟨rfl, rfl, rfl, rfl, trivial⟩) (by exact ⟨rfl, rfl, rfl, rfl, trivial⟩) ?_ ?_
            · exact Nat.zero_le _
            ·intro i L1 K1 e1 e2 hI
             dsimp only [apV, apR, List.cons_append, List.nil_append] at e1 e2
             subst e1 e2
             iterate 2 (refine sq ?_)
             refine rg ?_
             iterate 4 (refine st (h := O) ?_)
             refine nl ?_
             refine cD (fun c3 => ?_) (fun c3 => ?_)
             ·have hil : i < ats.length := by omega
              have hln := hch i hil
              have hlt := lineB_facts hln
              obtain ⟨ho, f1, f2, f3, f4, f5, hms⟩ := ln_facts hm hln
              have hov := hov i hil
              obtain ⟨lb, lo, y, yp, ypc, rfl, hy, h3, _, _⟩ := hlr i (by rw [hnl]; exact hil)
              obtain rfl : lnAt l ats xw (al % 4) i = y := by rw [linesN_get hil] at hy; exact Option.some.inj hy
              obtain ⟨ab, ao, rfl, har⟩ := hx0.rd (by omega)
              have q1 : look (((F.add Y).add Y1).add Y2) ⟨ab, ao + (i : Int).toNat * 1, none⟩ = some (.int .i64 (ints ats i)) := by
                rw [Int.toNat_natCast, Nat.mul_one]
                exact hN2.le _ _ (hN1.le _ _ (har _ _ (ints_get hil)))
              rw [show lo + i * 3 = lo + (i : Int).toNat * 3 from rfl] at h3
              have k1 : look (((F.add Y).add Y1).add Y2) ⟨lb, lo + (i : Int).toNat * 3 + 1, none⟩ = some (.bool (lnAt l ats xw (al % 4) i).over) := lookN_at h3 1 rfl
              rw [ho] at k1
              have hm2 := hm
              simp only [mayB, decide_eq_true_eq] at hm2
              refine sk ?_
              refine sq ?_
              refine bl ?_
              iterate 2 (refine sq ?_)
              refine J.cut1 (α := Bool) (fun q => q = false) (fun q => [(87, .bool q)]) [(0, _), (4, _), (7, _), (9, _), (11, _), (12, _)] (fun q => []) [(4, _), (7, _)] (by exact ⟨rfl, rfl, rfl, rfl, rfl, rfl, trivial⟩) (by exact ⟨rfl, rfl, rfl, rfl, trivial⟩) ?_ ?_
              ·refine rg ?_
               refine st (h := sdFA) ?_
               refine st (h := sdL) ?_
               refine st (h := O) ?_
               refine gB (fun g81 => ?_) (fun g81 => ?_)
               ·refine sg (h := O) ?_
                refine sg (h := O) ?_
                refine sg (h := (sdX (z := 3))) ?_
                refine sg (h := sdFA) ?_
                refine sg (h := sdL) ?_
                refine st (h := O) ?_
                refine nl ?_
                refine ck1 (_) (by exact ⟨rfl, trivial⟩) (by exact ⟨rfl, rfl, rfl, rfl, rfl, rfl, trivial⟩) (by exact ⟨rfl, rfl, rfl, rfl, trivial⟩) ?_
                first
                  | rfl
                  | (rw [decide_eq_false_iff_not]; intro h9; have h8 := (hov h9).1; rw [h8] at g81; cases g81)
                  | (simp at *; done)
                  | (exfalso; simp at *; omega)
               ·refine sp ?_
                iterate 4 (refine sp ?_)
                refine st (h := O) ?_
                refine nl ?_
                refine ck1 (_) (by exact ⟨rfl, trivial⟩) (by exact ⟨rfl, rfl, rfl, rfl, rfl, rfl, trivial⟩) (by exact ⟨rfl, rfl, rfl, rfl, trivial⟩) ?_
                first
                  | rfl
                  | (rw [decide_eq_false_iff_not]; intro h9; have h8 := (hov h9).1; rw [h8] at g81; cases g81)
                  | (simp at *; done)
                  | (exfalso; simp at *; omega)
              ·intro q L1 K1 e1 e2 hI
               dsimp only [List.cons_append, List.nil_append] at e1 e2
               subst e1 e2
               subst hI
               refine cB (fun c4 => ?_) (fun c4 => ?_)
               ·cases c4
               ·refine sk ?_
                iterate 2 (refine sq ?_)
                refine J.cut1 (α := Bool) (fun q => q = true → mZ l (prevA ats i + 1).toNat (ints ats i).toNat < -(xw - mW l (prevA ats i + 1).toNat (ints ats i).toNat)) (fun q => [(97, .bool q)]) [(0, _), (4, _), (7, _), (9, _), (11, _), (12, _)] (fun q => []) [(4, _), (7, _)] (by exact ⟨rfl, rfl, rfl, rfl, rfl, rfl, trivial⟩) (by exact ⟨rfl, rfl, rfl, rfl, trivial⟩) ?_ ?_
                ·refine rg ?_
                 refine st (h := sdFA) ?_
                 refine st (h := sdL) ?_
                 iterate 2 (refine st (h := O) ?_)
                 refine gB (fun g91 => ?_) (fun g91 => ?_)
                 ·refine sg (h := O) ?_
                  refine sg (h := O) ?_
                  refine sg (h := (sdX (z := 3))) ?_
                  refine sg (h := sdFA) ?_
                  refine sg (h := sdL) ?_
                  refine st (h := O) ?_
                  refine nl ?_
                  refine ck1 (_) (by exact ⟨rfl, trivial⟩) (by exact ⟨rfl, rfl, rfl, rfl, rfl, rfl, trivial⟩) (by exact ⟨rfl, rfl, rfl, rfl, trivial⟩) ?_
                  first
                    | (intro h9; cases h9; done)
                    | (intro h9; simp at h9; omega)
                 ·refine sp ?_
                  iterate 4 (refine sp ?_)
                  refine st (h := O) ?_
                  refine nl ?_
                  refine ck1 (_) (by exact ⟨rfl, trivial⟩) (by exact ⟨rfl, rfl, rfl, rfl, rfl, rfl, trivial⟩) (by exact ⟨rfl, rfl, rfl, rfl, trivial⟩) ?_
                  first
                    | (intro h9; cases h9; done)
                    | (intro h9; simp at h9; omega)
                ·intro q L1 K1 e1 e2 hI
                 dsimp only [List.cons_append, List.nil_append] at e1 e2
                 subst e1 e2
                 have hI15 := hI
                 refine cB (fun c5 => ?_) (fun c5 => ?_)
                 ·refine sq ?_
                  refine rg ?_
                  refine st (h := O) ?_
                  refine st (h := sdA) ?_
                  refine st (h := O) ?_
                  refine nl ?_
                  refine bl ?_
                  refine J.loop1 (α := Int) (fun k => prevA ats i < k ∧ k ≤ l.length) (fun k => [(13, .int .i64 k)]) [(0, _), (4, _), (7, _), (9, _), (11, _), (12, _)] (fun k => []) [(4, _), (7, _)] (fun k => (l.length - k).toNat) (prevA ats i + 1) (by exact ⟨rfl, trivial⟩) (by exact ⟨rfl, rfl, rfl, rfl, rfl, rfl, trivial⟩) (by exact ⟨rfl, rfl, rfl, rfl, trivial⟩) ?_ ?_
                  · omega
                  ·intro k L1 K1 e1 e2 hI
                   dsimp only [apV, apR, List.cons_append, List.nil_append] at e1 e2
                   subst e1 e2
                   iterate 2 (refine sq ?_)
                   refine rg ?_
                   iterate 4 (refine st (h := O) ?_)
                   refine nl ?_
                   refine cD (fun c6 => ?_) (fun c6 => ?_)
                   ·refine sk ?_
                    refine sq ?_
                    refine bl ?_
                    refine sq ?_
                    refine rg ?_
                    iterate 3 (refine st (h := O) ?_)
                    refine cl (h := by exact fun ι hV hl => (R24Measure_C _ _ l _ _ (hv2'.le hl)).ofR (argC (hvb.rV ι _ _) rfl)) ?_
                    obtain ⟨⟨m1, m2⟩, m3, m4⟩ := measD_bd (l := l) (a := prevA ats i) (b := k)
                    iterate 7 (refine st (h := O) ?_)
                    refine nl ?_
                    refine sq ?_
                    refine J.cut1 (α := Bool) (fun q => q = false) (fun q => [(133, .bool q)]) [(0, _), (4, _), (7, _), (9, _), (11, _), (12, _), (13, _)] (fun q => []) [(4, _), (7, _)] (by exact ⟨rfl, rfl, rfl, rfl, rfl, rfl, rfl, trivial⟩) (by exact ⟨rfl, rfl, rfl, rfl, trivial⟩) ?_ ?_
                    ·refine rg ?_
                     iterate 2 (refine st (h := O) ?_)
                     refine cl (h := by exact fun ι hV hl => (R24Legal_C _ _ l k (hv2'.le hl)).ofR (argC (hvb.rV ι _ _) rfl)) ?_
                     refine st (h := O) ?_
                     refine gB (fun g117 => ?_) (fun g117 => ?_)
                     ·refine sg (h := O) ?_
                      refine sg (h := O) ?_
                      refine sg (h := sdS) ?_
                      refine sg (h := sdFA) ?_
                      refine sg (h := sdL) ?_
                      refine sg (h := O) ?_
                      iterate 2 (refine st (h := O) ?_)
                      refine gD (fun g125 => ?_) (fun g125 => ?_)
                      ·refine sg (h := O) ?_
                       refine sg (h := sdFA) ?_
                       refine sg (h := sdL) ?_
                       refine sg (h := O) ?_
                       refine sg (h := (sdX (z := 1))) ?_
                       refine sg (h := (by first | exact sdLG | exact sdW)) ?_
                       refine sg (h := O) ?_
                       refine st (h := O) ?_
                       refine nl ?_
                       refine ck1 (_) (by exact ⟨rfl, trivial⟩) (by exact ⟨rfl, rfl, rfl, rfl, rfl, rfl, rfl, trivial⟩) (by exact ⟨rfl, rfl, rfl, rfl, trivial⟩) ?_
                       first
                         | rfl
                         | (rw [decide_eq_false_iff_not]; exact room_in hg hln (hov (hI15 c5)).2 hI.1 g117 g125)
                         | (simp at *; done)
                         | (exfalso; simp at *; omega)
                      ·refine sp ?_
                       iterate 6 (refine sp ?_)
                       refine st (h := O) ?_
                       refine nl ?_
                       refine ck1 (_) (by exact ⟨rfl, trivial⟩) (by exact ⟨rfl, rfl, rfl, rfl, rfl, rfl, rfl, trivial⟩) (by exact ⟨rfl, rfl, rfl, rfl, trivial⟩) ?_
                       first
                         | rfl
                         | (rw [decide_eq_false_iff_not]; exact room_in hg hln (hov (hI15 c5)).2 hI.1 g117 g125)
                         | (simp at *; done)
                         | (exfalso; simp at *; omega)
                     ·refine sp ?_
                      iterate 5 (refine sp ?_)
                      iterate 2 (refine st (h := O) ?_)
                      iterate 7 (refine sp ?_)
                      refine st (h := O) ?_
                      refine nl ?_
                      refine ck1 (_) (by exact ⟨rfl, trivial⟩) (by exact ⟨rfl, rfl, rfl, rfl, rfl, rfl, rfl, trivial⟩) (by exact ⟨rfl, rfl, rfl, rfl, trivial⟩) ?_
                      first
                        | rfl
                        | (rw [decide_eq_false_iff_not]; exact room_in hg hln (hov (hI15 c5)).2 hI.1 g117 g125)
                        | (simp at *; done)
                        | (exfalso; simp at *; omega)
                    ·intro q L1 K1 e1 e2 hI
                     dsimp only [List.cons_append, List.nil_append] at e1 e2
                     subst e1 e2
                     subst hI
                     refine cB (fun c7 => ?_) (fun c7 => ?_)
                     ·cases c7
                     ·refine sk ?_
                      refine bk ?_
                      refine rg ?_
                      refine st (h := O) ?_
                      refine st (h := sdA) ?_
                      refine st (h := O) ?_
                      refine nl ?_
                      refine bk1 (k + 1) (by exact ⟨rfl, trivial⟩) (by exact ⟨rfl, rfl, rfl, rfl, rfl, rfl, trivial⟩) (by exact ⟨rfl, rfl, rfl, rfl, trivial⟩) ?_ ?_
                      · omega
                      · omega
                   ·refine ex ?_
                    refine rg ?_
                    refine st (h := sdFA) ?_
                    refine st (h := sdL) ?_
                    refine st (h := O) ?_
                    refine st (h := (sdX (z := 1))) ?_
                    refine st (h := (by first | exact sdLG | exact sdW)) ?_
                    refine st (h := O) ?_
                    refine nl ?_
                    refine bk ?_
                    refine rg ?_
                    refine st (h := O) ?_
                    refine st (h := sdA) ?_
                    refine st (h := O) ?_
                    refine nl ?_
                    refine bk1 (i + 1) (by exact ⟨rfl, rfl, trivial⟩) (by exact ⟨rfl, rfl, rfl, rfl, trivial⟩) (by exact ⟨rfl, rfl, rfl, rfl, trivial⟩) ?_ ?_
                    · omega
                    · omega
                 ·refine sk ?_
                  refine rg ?_
                  refine st (h := sdFA) ?_
                  refine st (h := sdL) ?_
                  refine st (h := O) ?_
                  refine st (h := (sdX (z := 1))) ?_
                  refine st (h := (by first | exact sdLG | exact sdW)) ?_
                  refine st (h := O) ?_
                  refine nl ?_
                  refine bk ?_
                  refine rg ?_
                  refine st (h := O) ?_
                  refine st (h := sdA) ?_
                  refine st (h := O) ?_
                  refine nl ?_
                  refine bk1 (i + 1) (by exact ⟨rfl, rfl, trivial⟩) (by exact ⟨rfl, rfl, rfl, rfl, trivial⟩) (by exact ⟨rfl, rfl, rfl, rfl, trivial⟩) ?_ ?_
                  · omega
                  · omega
             ·refine ex ?_
              refine sq ?_
              refine rg ?_
              refine cl (h := by exact fun ι hV hl => wakes25_C _) ?_
              refine st (h := O) ?_
              refine nl ?_
              repeat refine J.dropF ?_
              first
                | exact rt ⟨rfl, rfl⟩
                | (exfalso; rcases z4 with z4 | z4; (simp [z4] at g55); (exact absurd z4 g60))
                | (exfalso; simp at *; done)
                | (exfalso; simp at *; omega)
end Go.Proofs.Ytnkddjdmpnghmaa.Am
namespace Go.Proofs.Ytnkddjdmpnghmaa.Am
set_option linter.unusedSimpArgs false
set_option linter.unusedVariables false
set_option maxRecDepth 100000
set_option maxHeartbeats 4000000
open Go Go.RowKit
def kPar : Knd Par where
  sz := 5
  R _ cs x := Value.agg ⟨cs⟩ = x.v
  len h := by
    have e := congrArg (fun v => (cellsL v).length) h
    exact e
  le _ h := h
section
variable {H : Type} {enc : TypeId × Value → H} {W : World}
theorem opPar : Opens enc Try.prog W 53 kPar (fun _ => True) :=
  opens_to (opens_struct Try.underlying53 (by kernel_rfl) (opensF_cons opI (opensF_cons opI (opensF_cons opI (opensF_cons opI (opensF_one opI))))))
    fun F cs p h hg => by
      obtain ⟨x1, x2, x3, x4, x5⟩ := p
      obtain ⟨c1, r1, rfl, rfl, c2, r2, rfl, rfl, c3, r3, rfl, rfl, c4, r4, rfl, rfl, rfl⟩ := h
      exact ⟨⟨x1, x2, x3, x4, x5⟩, rfl, trivial⟩
end
theorem law8_K {F : Mem} {cs : List Value} {v : Value} {l : List Item} {x : Par} {al : Int} (hv : kItem.S F v l) (h : kPar.R F cs x) (hgl : ∀ i ∈ l, i.glyphs.length * 8 ≤ 140737488351232) (hal : i64ok al) : C0 Try.prog 8 [v, .agg ⟨cs⟩, .int .i64 al] F (.bool true) := by
  rw [show Value.agg ⟨cs⟩ = x.v from h]
  exact law8_C F v l x al (RItems.ofS hv) (fun i hi => Nat.le_trans (hgl i hi) (by decide)) hal
end Go.Proofs.Ytnkddjdmpnghmaa.Am
