/- Rules for walking Go functions with memory told by tags (A19). -/
import Derived.Test.YtbeblgjibfoanaaA18
import Derived.Orders
import Derived.OrdersHeld
namespace Go.Proofs.Ytbeblgjibfoanaa.Am
set_option linter.unusedSimpArgs false
set_option linter.unusedVariables false
open Go Go.RowKit
/-! Regions that draw their order. -/
section
variable {P : Program} {ops : Array Oper} {Q : Exit → Act → World → Prop} {md : Region.Mode} {b : Nat} {S : World → Prop}
/-- Whatever order is picked, and S holds behind each operation, until operation b has come up. -/
def wpAnyB (P : Program) (md : Region.Mode) (ops : Array Oper) (Q : Exit → Act → World → Prop) (b : Nat) (S : World → Prop) : Nat → Array Bool → Act → World → Prop
  | 0, listed, a, w => Region.ready md ops listed = [] ∧ Q .normal a w
  | fuel + 1, listed, a, w =>
    (Region.ready md ops listed = [] → Q .normal a w) ∧
    ∀ i ∈ Region.ready md ops listed, wpOp P ops Q i (fun a' w' => ((listed.setIfInBounds i true).getD b false = false → S w') ∧ wpAnyB P md ops Q b S fuel (listed.setIfInBounds i true) a' w') a w
theorem wpAny_of_B : ∀ (fuel : Nat) (listed : Array Bool) (a : Act) (w : World), wpAnyB P md ops Q b S fuel listed a w → wpAny P md ops Q fuel listed a w
  | 0, _, _, _, h => h
  | fuel + 1, _, _, _, h => ⟨h.1, fun i hi => wpOp_mono (fun a' w' h' => wpAny_of_B fuel _ a' w' h'.2) (h.2 i hi)⟩
theorem wpAnyB_first {i : Nat} {oi : Oper} {v : Value} (hi : ops[i]? = some oi) (hsel : ∀ (j : Nat) (o : Oper) cs b, ops[j]? = some o → o.op ≠ .select cs b)
    (hQ : ∀ c a w, Q (.panic c) (a.put oi.dst v) w → Q (.panic c) a w) (hib : i ≠ b) (hbw : ∀ ob, ops[b]? = some ob → ∃ e ∈ ob.after, Region.binds md e = true ∧ e.on = i) :
    ∀ (fuel : Nat) (listed : Array Bool) (a : Act) (w : World), listed.getD b false = false →
      (∀ j oj, ops[j]? = some oj → j ≠ i → listed.getD j true = false → (∀ e ∈ oj.after, Region.binds md e = true → e.on ≠ i) → oi.apart ops oj = true) →
      i ∈ Region.ready md ops listed → YieldsIf P ops S oi v a → S w →
      wpAnyB P md ops Q b S fuel (listed.setIfInBounds i true) (a.put oi.dst v) w → wpAnyB P md ops Q b S (fuel + 1) listed a w := by
  intro fuel
  induction fuel with
  | zero =>
    intro listed a w hbl _ hr hy hS H
    refine ⟨fun h => (by rw [h] at hr; cases hr), fun j hj => ?_⟩
    by_cases hji : j = i
    · subst hji; exact hy.wpOp hi hS ⟨fun _ => hS, H⟩
    · have := ready_mono hj hji
      rw [H.1] at this
      cases this
  | succ fuel ih =>
    intro listed a w hbl hfree hr hy hS H
    refine ⟨fun h => (by rw [h] at hr; cases hr), fun j hj => ?_⟩
    by_cases hji : j = i
    · subst hji; exact hy.wpOp hi hS ⟨fun _ => hS, H⟩
    · have h1 := H.2 j (ready_mono hj hji)
      obtain ⟨hjun, oj, hoj, hall⟩ := mem_ready.1 hj
      have hnot : ∀ e ∈ oj.after, Region.binds md e = true → e.on ≠ i := fun e he hb heq => by
        have h1 := hall e he hb
        have h0 := (mem_ready.1 hr).1
        rw [heq] at h1
        rcases Nat.lt_or_ge i listed.size with h' | h'
        · simp [h'] at h0 h1; rw [h0] at h1; cases h1
        · simp [Array.getElem?_eq_none h'] at h1
      have hjb : j ≠ b := fun e => by
        subst e
        obtain ⟨x, hx, hb1, hb2⟩ := hbw oj hoj
        exact hnot x hx hb1 hb2
      have h2 := wpOp_putIf (S := S) hoj (hfree j oj hoj hji hjun hnot) (fun cs b => hsel i oi cs b hi) (fun cs b => hsel j oj cs b hoj) hQ hy h1
      have hbl' : (listed.setIfInBounds j true).getD b false = false := by rw [getD_set_ne false hjb]; exact hbl
      have hbl2 : ((listed.setIfInBounds i true).setIfInBounds j true).getD b false = false := by rw [getD_set_ne false hjb, getD_set_ne false hib]; exact hbl
      have hfree' : ∀ k ok, ops[k]? = some ok → k ≠ i → (listed.setIfInBounds j true).getD k true = false →
          (∀ e ∈ ok.after, Region.binds md e = true → e.on ≠ i) → oi.apart ops ok = true := fun k ok hk hki hun hno => by
        refine hfree k ok hk hki ?_ hno
        by_cases hjk : j = k
        · subst hjk; exact hjun
        · rw [getD_set_ne true hjk] at hun; exact hun
      refine wpOp_mono (fun a' w' h3 => ⟨fun _ => h3.2.1 hbl2, ih (listed.setIfInBounds j true) a' w' hbl' hfree' (ready_mono hr (Ne.symm hji)) h3.1 (h3.2.1 hbl2) ?_⟩) h2
      rw [Array.setIfInBounds_comm _ _ hji]
      exact h3.2.2
theorem wpAnyB_pure {i : Nat} {oi : Oper} {v : Value} (hi : ops[i]? = some oi) (hsel : ∀ (j : Nat) (o : Oper) cs b, ops[j]? = some o → o.op ≠ .select cs b)
    (hQ : ∀ c a w, Q (.panic c) (a.put oi.dst v) w → Q (.panic c) a w) (hib : i ≠ b) :
    ∀ (fuel : Nat) (listed : Array Bool) (a : Act) (w : World),
      (∀ j oj, ops[j]? = some oj → j ≠ i → listed.getD j true = false → (∀ e ∈ oj.after, Region.binds md e = true → e.on ≠ i) → oi.apart ops oj = true) →
      i ∈ Region.ready md ops listed → YieldsIf P ops (fun _ => True) oi v a → (listed.getD b false = false → S w) →
      wpAnyB P md ops Q b S fuel (listed.setIfInBounds i true) (a.put oi.dst v) w → wpAnyB P md ops Q b S (fuel + 1) listed a w := by
  intro fuel
  induction fuel with
  | zero =>
    intro listed a w _ hr hy hS H
    refine ⟨fun h => (by rw [h] at hr; cases hr), fun j hj => ?_⟩
    by_cases hji : j = i
    · subst hji; exact hy.wpOp hi trivial ⟨fun h => hS (by rwa [getD_set_ne false hib] at h), H⟩
    · have := ready_mono hj hji
      rw [H.1] at this
      cases this
  | succ fuel ih =>
    intro listed a w hfree hr hy hS H
    refine ⟨fun h => (by rw [h] at hr; cases hr), fun j hj => ?_⟩
    by_cases hji : j = i
    · subst hji; exact hy.wpOp hi trivial ⟨fun h => hS (by rwa [getD_set_ne false hib] at h), H⟩
    · have h1 := H.2 j (ready_mono hj hji)
      obtain ⟨hjun, oj, hoj, hall⟩ := mem_ready.1 hj
      have hnot : ∀ e ∈ oj.after, Region.binds md e = true → e.on ≠ i := fun e he hb heq => by
        have h1 := hall e he hb
        have h0 := (mem_ready.1 hr).1
        rw [heq] at h1
        rcases Nat.lt_or_ge i listed.size with h' | h'
        · simp [h'] at h0 h1; rw [h0] at h1; cases h1
        · simp [Array.getElem?_eq_none h'] at h1
      have h2 := wpOp_putIf (S := fun _ => True) hoj (hfree j oj hoj hji hjun hnot) (fun cs b => hsel i oi cs b hi) (fun cs b => hsel j oj cs b hoj) hQ hy h1
      have hfree' : ∀ k ok, ops[k]? = some ok → k ≠ i → (listed.setIfInBounds j true).getD k true = false →
          (∀ e ∈ ok.after, Region.binds md e = true → e.on ≠ i) → oi.apart ops ok = true := fun k ok hk hki hun hno => by
        refine hfree k ok hk hki ?_ hno
        by_cases hjk : j = k
        · subst hjk; exact hjun
        · rw [getD_set_ne true hjk] at hun; exact hun
      have hbe : ((listed.setIfInBounds i true).setIfInBounds j true).getD b false = (listed.setIfInBounds j true).getD b false := by
        rw [Array.setIfInBounds_comm _ _ (Ne.symm hji), getD_set_ne false hib]
      refine wpOp_mono (fun a' w' h3 => ⟨fun h => h3.2.1 (by rw [hbe]; exact h), ih (listed.setIfInBounds j true) a' w' hfree' (ready_mono hr (Ne.symm hji)) h3.1 (fun h => h3.2.1 (by rw [hbe]; exact h)) ?_⟩) h2
      rw [Array.setIfInBounds_comm _ _ hji]
      exact h3.2.2
end
/-- a plan: which operation comes next, and whether it only computes or reads -/
def waitsB (l : List Oper) (b i : Nat) : Bool := match l.toArray[b]? with
  | some ob => ob.after.any fun e => Region.binds .any e && e.on == i
  | none => true
/-- several that may come up, in any order -/
def manyOk (l : List Oper) : Nat → List Nat → Array Bool → Bool
  | 0, _, _ => true
  | f + 1, R, listed => R.isEmpty || (Region.ready .any l.toArray listed == R && R.all fun m => manyOk l f (R.erase m) (listed.setIfInBounds m true))
def decM : Nat → Nat → List Nat
  | 0, _ => []
  | f + 1, c => if c = 0 then [] else (c % 100 - 1) :: decM f (c / 100)
def planOk (l : List Oper) (b : Nat) : Array Bool → List (Nat × Bool) → Bool
  | listed, [] => (Region.ready .any l.toArray listed).isEmpty
  | listed, (i, true) :: p => if i < 2000 then i != b && !listed.getD b false && waitsB l b i && Region.free .any l.toArray listed i && (Region.ready .any l.toArray listed).contains i && planOk l b (listed.setIfInBounds i true) p
    else i - 2000 != b && Region.free .any l.toArray listed (i - 2000) && (Region.ready .any l.toArray listed).contains (i - 2000) && planOk l b (listed.setIfInBounds (i - 2000) true) p
  | listed, (i, false) :: p => if i < 10000 then Region.ready .any l.toArray listed == [i] && planOk l b (listed.setIfInBounds i true) p
    else if i < 1000000 then Region.ready .any l.toArray listed == [i / 100 % 100, i % 100] && (i / 100 % 100 != i % 100 && (Region.ready .any l.toArray (listed.setIfInBounds (i / 100 % 100) true) == [i % 100] && (Region.ready .any l.toArray (listed.setIfInBounds (i % 100) true) == [i / 100 % 100] && planOk l b ((listed.setIfInBounds (i / 100 % 100) true).setIfInBounds (i % 100) true) p)))
    else manyOk l 20 (decM 20 (i - 1000000)) listed && planOk l b ((decM 20 (i - 1000000)).foldl (fun a m => a.setIfInBounds m true) listed) p
def pl : List (Nat × Bool) → Nat
  | [] => 0
  | (_, true) :: p => pl p + 1
  | (i, false) :: p => if i < 10000 then pl p + 1 else if i < 1000000 then pl p + 2 else pl p + (decM 20 (i - 1000000)).length
def tgK (D : List Nat) (K : Own) : Bool := K.all fun x => D.contains x.1 && (x.2.flat || x.2.cs.all (tg1 D))
theorem St.agree {F : Mem} {ι κ : Nat → Nat} {K : Own} {w : World} {D : List Nat} (h : St F ι K w) (hk : ∀ u ∈ D, κ u = ι u) (ht : tgK D K = true) : St F κ K w := by
  have hrow : ∀ x ∈ K, κ x.1 = ι x.1 ∧ x.2.c κ = x.2.c ι := by
    intro x hx
    have := List.all_eq_true.1 ht x hx
    simp only [Bool.and_eq_true, Bool.or_eq_true] at this
    refine ⟨hk _ (by simpa using this.1), ?_⟩
    rcases this.2 with hf | hf
    · exact Row.c_flat _ _ ((h.own x hx).2.2 hf)
    · unfold Row.c
      rw [List.map_congr_left fun v hv => c1_tg hk (List.all_eq_true.1 hf v hv)]
  have hmap : (K.map fun x => κ x.1) = K.map fun x => ι x.1 := List.map_congr_left fun x hx => (hrow x hx).1
  refine ⟨h.below, by rw [hmap]; exact h.nodup, fun x hx => ?_, h.ext⟩
  obtain ⟨h1, h2⟩ := hrow x hx
  rw [h1, h2]; exact h.own x hx
theorem St.drop {F : Mem} {Y : List (Nat × Row)} {ι : Nat → Nat} {K : Own} {w : World} (h : St (F.add Y) ι K w) : St F ι K w := by
  refine ⟨h.below, ?_, h.own, fun x hx => h.ext x (List.mem_append_right _ hx)⟩
  have := h.nodup
  simp only [Mem.add, List.map_append] at this
  refine this.sublist ?_
  exact (List.Sublist.refl _).append (List.sublist_append_right _ _)
structure JDok (X : Cx) (l : List Oper) (K0 : Own) (D : List Nat) : Prop where
  nop : ∀ c F L K, ¬ X.R (.panic c) F L K
  sel : Region.noSelect l.toArray = true
  sub : (X.D.all fun t => D.contains t) = true
  tgk : tgK D K0 = true
def JD (X : Cx) (l : List Oper) (b : Nat) (F0 : Mem) (K0 : Own) (D : List Nat) (p : List (Nat × Bool)) (listed : Array Bool) (s : List SI) : Pst := fun F L K =>
  planOk l b listed p = true → JDok X l K0 D → ∀ (ι0 ι : Nat → Nat) (a : Act) (w : World), Fr X.N ι L a → St F ι K w → (∀ u ∈ D, ι u = ι0 u) → (listed.getD b false = false → St F0 ι0 K0 w) →
    wpAnyB X.P .any l.toArray (Lft X.N X.D ι0 (sem X s)) b (fun w => St F0 ι0 K0 w) (pl p) listed a w
theorem sem_panic {X : Cx} (h : ∀ c F L K, ¬ X.R (.panic c) F L K) {c : List PanicEntry} {F : Mem} {L : Slots} {K : Own} : ∀ {s : List SI}, ¬ sem X s (.panic c) F L K
  | [] => h c F L K
  | .code _ :: s => sem_panic h (s := s)
  | .blk _ :: s => sem_panic h (s := s)
  | .back _ :: s => sem_panic h (s := s)
section
variable {X : Cx} {F F0 : Mem} {L : Slots} {K K0 : Own} {s : List SI} {l : List Oper} {b : Nat} {D : List Nat} {p : List (Nat × Bool)} {listed : Array Bool}
theorem J.draw {id : Nat} (b : Nat) (D : List Nat) (p : List (Nat × Bool)) (hm : X.P.follows .mixedOrders = true) (hlen : pl p = l.length) (hp : planOk l b (Array.replicate l.length false) p = true) (hok : JDok X l K D)
    (h : JD X l b F K D p (Array.replicate l.length false) s F L K) : J X (.code (.region id l.toArray true) :: s) F L K := by
  intro ι a w hF hS
  refine wp_region_any hm (wpAny_of_B (b := b) (S := fun w => St F ι K w) _ _ _ _ ?_)
  have hS' : St F ι K { w with drawn := w.drawn + 1 } := hS.same rfl rfl rfl rfl
  have := h hp hok ι ι a _ hF hS' (fun _ _ => rfl) (fun _ => hS')
  rw [hlen] at this
  simpa using this
theorem JD.done (h : J X s F L K) : JD X l b F0 K0 D [] listed s F L K := by
  intro hp hok ι0 ι a w hF hS hag _
  refine ⟨by simpa [planOk] using hp, ι, F, L, K, hF, hS, fun t ht => hag t ?_, h⟩
  simpa using List.all_eq_true.1 hok.sub t ht
theorem JD.take_ {i : Nat} {o : Oper} {v : Value} {L' : Slots} (hi2 : i < 2000) (ho : l[i]? = some o) (hy : ∀ (ι0 ι : Nat → Nat) (a : Act), Fr X.N ι L a → (∀ u ∈ D, ι u = ι0 u) → JDok X l K0 D → YieldsIf X.P l.toArray (fun w => St F0 ι0 K0 w) o (cV ι v) a ∧ Fr X.N ι L' (a.put o.dst (cV ι v)))
    (h : JD X l b F0 K0 D p (listed.setIfInBounds i true) s F L' K) : JD X l b F0 K0 D ((i, true) :: p) listed s F L K := by
  intro hp hok ι0 ι a w hF hS hag hS0
  simp only [planOk, hi2, if_true, Bool.and_eq_true, Bool.not_eq_true', bne_iff_ne, ne_eq] at hp
  obtain ⟨⟨⟨⟨⟨h1, h2⟩, h3⟩, h4⟩, h5⟩, h6⟩ := hp
  obtain ⟨y1, y2⟩ := hy ι0 ι a hF hag hok
  have ho' : l.toArray[i]? = some o := by simpa using ho
  refine wpAnyB_first ho' (Region.noSelect_spec hok.sel) (fun c a' w' hq => ?_) h1 (fun ob hob => ?_) (pl p) listed a w h2 (Region.free_spec ho' h4) (by simpa using h5) y1 (hS0 h2) ?_
  · obtain ⟨_, _, _, _, _, _, _, hq⟩ := hq
    exact absurd hq (sem_panic hok.nop)
  · unfold waitsB at h3
    rw [hob] at h3
    obtain ⟨e, he, hb⟩ := Array.any_eq_true'.1 h3
    simp only [Bool.and_eq_true, beq_iff_eq] at hb
    exact ⟨e, he, hb.1, hb.2⟩
  · exact h h6 hok ι0 ι _ w y2 hS hag (fun _ => hS0 h2)
/-- an operation that only computes or reads -/
theorem JD.take {i d : Nat} (hi2 : i < 2000) {o : Oper} {v : Value} (ho : l[i]? = some o) (hg : o.guard = none) (hd : o.dst = some d) (hN : d < X.N) (hv : SD X.P F0 K0 L o.op v)
    (h : JD X l b F0 K0 D p (listed.setIfInBounds i true) s F ((d, v) :: L) K) : JD X l b F0 K0 D ((i, true) :: p) listed s F L K := by
  refine JD.take_ hi2 (v := v) ho (fun ι0 ι a hF hag hok => ⟨.inl ⟨by simp [Region.wanted, hg], fun w hw => hv ι a.eval (fun x u hu => hF.ev hu) o rfl w (hw.agree (fun u hu => hag u hu) hok.tgk)⟩, by rw [hd]; exact hF.put hN v⟩) h
theorem JD.takeG {i d j e : Nat} (hi2 : i < 2000) {want : Bool} {o : Oper} {v : Value} (ho : l[i]? = some o) (hg : o.guard = some (j, want)) (hj : (l[j]?).bind (·.dst) = some e) (hb : L.lookup e = some (.bool want)) (hd : o.dst = some d) (hN : d < X.N) (hv : SD X.P F0 K0 L o.op v)
    (h : JD X l b F0 K0 D p (listed.setIfInBounds i true) s F ((d, v) :: L) K) : JD X l b F0 K0 D ((i, true) :: p) listed s F L K := by
  refine JD.take_ hi2 (v := v) ho (fun ι0 ι a hF hag hok => ⟨.inl ⟨by rw [JL.wanted (ops := l.toArray) hF hg (by simpa using hj) hb]; simp, fun w hw => hv ι a.eval (fun x u hu => hF.ev hu) o rfl w (hw.agree (fun u hu => hag u hu) hok.tgk)⟩, by rw [hd]; exact hF.put hN v⟩) h
theorem JD.pass {i d j e : Nat} (hi2 : i < 2000) {want q : Bool} {o : Oper} (ho : l[i]? = some o) (hg : o.guard = some (j, want)) (hj : (l[j]?).bind (·.dst) = some e) (hb : L.lookup e = some (.bool q)) (hne : (q == want) = false) (hd : o.dst = some d) (hN : d < X.N)
    (h : JD X l b F0 K0 D p (listed.setIfInBounds i true) s F ((d, undef) :: L) K) : JD X l b F0 K0 D ((i, true) :: p) listed s F L K := by
  refine JD.take_ hi2 (v := undef) ho (fun ι0 ι a hF hag hok => ⟨.inr ⟨by rw [JL.wanted (ops := l.toArray) hF hg (by simpa using hj) hb, hne], by simp [undef]⟩, by rw [hd]; exact hF.put hN undef⟩) h
theorem JD.passU {i d j e : Nat} (hi2 : i < 2000) {want : Bool} {o : Oper} (ho : l[i]? = some o) (hg : o.guard = some (j, want)) (hj : (l[j]?).bind (·.dst) = some e) (hb : L.lookup e = some undef) (hd : o.dst = some d) (hN : d < X.N)
    (h : JD X l b F0 K0 D p (listed.setIfInBounds i true) s F ((d, undef) :: L) K) : JD X l b F0 K0 D ((i, true) :: p) listed s F L K := by
  refine JD.take_ hi2 (v := undef) ho (fun ι0 ι a hF hag hok => ⟨.inr ⟨?_, by simp [undef]⟩, by rw [hd]; exact hF.put hN undef⟩) h
  have hs := hF.slot e _ hb
  have hj' : (l.toArray[j]?).bind (·.dst) = some e := by simpa using hj
  simp only [Region.wanted, hg, yielded, hj', Option.bind_some, hs]
  simp [undef]
theorem JD.pure_ {i : Nat} {o : Oper} {v : Value} {L' : Slots} (ho : l[i]? = some o) (hy : ∀ (ι : Nat → Nat) (a : Act), Fr X.N ι L a → YieldsIf X.P l.toArray (fun _ => True) o (cV ι v) a ∧ Fr X.N ι L' (a.put o.dst (cV ι v)))
    (h : JD X l b F0 K0 D p (listed.setIfInBounds i true) s F L' K) : JD X l b F0 K0 D ((i + 2000, true) :: p) listed s F L K := by
  intro hp hok ι0 ι a w hF hS hag hS0
  simp only [planOk, show ¬ i + 2000 < 2000 from by omega, if_false, Nat.add_sub_cancel, Bool.and_eq_true, bne_iff_ne, ne_eq] at hp
  obtain ⟨⟨⟨h1, h4⟩, h5⟩, h6⟩ := hp
  obtain ⟨y1, y2⟩ := hy ι a hF
  have ho' : l.toArray[i]? = some o := by simpa using ho
  refine wpAnyB_pure ho' (Region.noSelect_spec hok.sel) (fun c a' w' hq => ?_) h1 (pl p) listed a w (Region.free_spec ho' h4) (by simpa using h5) y1 hS0 ?_
  · obtain ⟨_, _, _, _, _, _, _, hq⟩ := hq
    exact absurd hq (sem_panic hok.nop)
  · exact h h6 hok ι0 ι _ w y2 hS hag (fun hl => hS0 (by rwa [getD_set_ne false h1] at hl))
theorem St.none (w : World) (ι : Nat → Nat) : St ⟨w, []⟩ ι [] w := ⟨Below.refl _ _, by simp, fun x hx => by simp at hx, fun x hx => by simp at hx⟩
theorem JD.pure {i d : Nat} {o : Oper} {v : Value} (ho : l[i]? = some o) (hg : o.guard = none) (hd : o.dst = some d) (hN : d < X.N) (hv : ∀ F K, SD X.P F K L o.op v)
    (h : JD X l b F0 K0 D p (listed.setIfInBounds i true) s F ((d, v) :: L) K) : JD X l b F0 K0 D ((i + 2000, true) :: p) listed s F L K := by
  refine JD.pure_ (v := v) ho (fun ι a hF => ⟨.inl ⟨by simp [Region.wanted, hg], fun w _ => hv _ _ ι a.eval (fun x u hu => hF.ev hu) o rfl w (St.none w ι)⟩, by rw [hd]; exact hF.put hN v⟩) h
theorem JD.pureG {i d j e : Nat} {want : Bool} {o : Oper} {v : Value} (ho : l[i]? = some o) (hg : o.guard = some (j, want)) (hj : (l[j]?).bind (·.dst) = some e) (hb : L.lookup e = some (.bool want)) (hd : o.dst = some d) (hN : d < X.N) (hv : ∀ F K, SD X.P F K L o.op v)
    (h : JD X l b F0 K0 D p (listed.setIfInBounds i true) s F ((d, v) :: L) K) : JD X l b F0 K0 D ((i + 2000, true) :: p) listed s F L K := by
  refine JD.pure_ (v := v) ho (fun ι a hF => ⟨.inl ⟨by rw [JL.wanted (ops := l.toArray) hF hg (by simpa using hj) hb]; simp, fun w _ => hv _ _ ι a.eval (fun x u hu => hF.ev hu) o rfl w (St.none w ι)⟩, by rw [hd]; exact hF.put hN v⟩) h
theorem JD.passP {i d j e : Nat} {want q : Bool} {o : Oper} (ho : l[i]? = some o) (hg : o.guard = some (j, want)) (hj : (l[j]?).bind (·.dst) = some e) (hb : L.lookup e = some (.bool q)) (hne : (q == want) = false) (hd : o.dst = some d) (hN : d < X.N)
    (h : JD X l b F0 K0 D p (listed.setIfInBounds i true) s F ((d, undef) :: L) K) : JD X l b F0 K0 D ((i + 2000, true) :: p) listed s F L K := by
  refine JD.pure_ (v := undef) ho (fun ι a hF => ⟨.inr ⟨by rw [JL.wanted (ops := l.toArray) hF hg (by simpa using hj) hb, hne], by simp [undef]⟩, by rw [hd]; exact hF.put hN undef⟩) h
theorem JD.passPU {i d j e : Nat} {want : Bool} {o : Oper} (ho : l[i]? = some o) (hg : o.guard = some (j, want)) (hj : (l[j]?).bind (·.dst) = some e) (hb : L.lookup e = some undef) (hd : o.dst = some d) (hN : d < X.N)
    (h : JD X l b F0 K0 D p (listed.setIfInBounds i true) s F ((d, undef) :: L) K) : JD X l b F0 K0 D ((i + 2000, true) :: p) listed s F L K := by
  refine JD.pure_ (v := undef) ho (fun ι a hF => ⟨.inr ⟨?_, by simp [undef]⟩, by rw [hd]; exact hF.put hN undef⟩) h
  have hs := hF.slot e _ hb
  have hj' : (l.toArray[j]?).bind (·.dst) = some e := by simpa using hj
  simp only [Region.wanted, hg, yielded, hj', Option.bind_some, hs]
  simp [undef]
theorem JD.one {i : Nat} {o : Oper} (hi : i < 10000) (ho : l[i]? = some o)
    (h : ∀ (ι0 ι : Nat → Nat) (a : Act) (w : World), Fr X.N ι L a → St F ι K w → (∀ u ∈ D, ι u = ι0 u) → JDok X l K0 D → planOk l b (listed.setIfInBounds i true) p = true →
      wpOp X.P l.toArray (Lft X.N X.D ι0 (sem X s)) i (fun a' w' => ((listed.setIfInBounds i true).getD b false = false → St F0 ι0 K0 w') ∧ wpAnyB X.P .any l.toArray (Lft X.N X.D ι0 (sem X s)) b (fun w => St F0 ι0 K0 w) (pl p) (listed.setIfInBounds i true) a' w') a w) :
    JD X l b F0 K0 D ((i, false) :: p) listed s F L K := by
  intro hp hok ι0 ι a w hF hS hag hS0
  simp only [planOk, hi, if_true, Bool.and_eq_true, beq_iff_eq] at hp
  rw [show pl ((i, false) :: p) = pl p + 1 from by simp [pl, hi]]
  refine ⟨fun h0 => (by rw [hp.1] at h0; cases h0), fun j hj => ?_⟩
  rw [hp.1] at hj
  simp only [List.mem_singleton] at hj
  subst hj
  exact h ι0 ι a w hF hS hag hok hp.2
/-- behind an operation that does something: what the others read is as it was, or they have all come up -/
def Kept (b : Nat) (F0 : Mem) (K0 : Own) (listed : Array Bool) (F : Mem) (K : Own) : Prop := listed.getD b false = true ∨ (KSub K0 K ∧ ∃ Y, F = F0.add Y)
theorem Kept.st {ι0 ι : Nat → Nat} {w : World} (hk : Kept b F0 K0 listed F K) (hS : St F ι K w) (hag : ∀ u ∈ D, ι u = ι0 u) (ht : tgK D K0 = true) (hl : listed.getD b false = false) : St F0 ι0 K0 w := by
  rcases hk with hk | ⟨hk, Y, rfl⟩
  · rw [hk] at hl; cases hl
  · exact (hS.drop.weak hk).agree (fun u hu => (hag u hu).symm) ht
/-- an operation that does something, the only one that may come up -/
theorem JD.op {i : Nat} {o : Oper} (hi : i < 10000) (ho : l[i]? = some o) (hg : o.guard = none) (h : Go1 X.P X.N D F L K o (fun F' L' K' => Kept b F0 K0 (listed.setIfInBounds i true) F' K' ∧ JD X l b F0 K0 D p (listed.setIfInBounds i true) s F' L' K')) : JD X l b F0 K0 D ((i, false) :: p) listed s F L K := by
  refine JD.one hi ho fun ι0 ι a w hF hS hag hok hp => ?_
  obtain ⟨ι1, w1, v, F1, L1, K1, hrun, h1, h2, h3, h4, h5⟩ := h ι a w hF hS
  have hag1 : ∀ u ∈ D, ι1 u = ι0 u := fun u hu => (h3 u hu).trans (hag u hu)
  have ho' : l.toArray[i]? = some o := by simpa using ho
  unfold wpOp
  simp only [ho', Region.wanted, hg, if_true]
  left
  have hk := And.intro (fun hl => h4.st (D := D) h2 hag1 hok.tgk hl) (h5 hp hok ι0 ι1 _ w1 h1 h2 hag1 (fun hl => h4.st h2 hag1 hok.tgk hl))
  simp only [Oper.wp]
  rcases hrun with hr | ⟨hr, rfl⟩
  · rw [hr]; exact hk
  · rw [hr]; exact hk
theorem JD.opG {i j e : Nat} {want : Bool} {o : Oper} (hi : i < 10000) (ho : l[i]? = some o) (hg : o.guard = some (j, want)) (hj : (l[j]?).bind (·.dst) = some e) (hb : L.lookup e = some (.bool want)) (h : Go1 X.P X.N D F L K o (fun F' L' K' => Kept b F0 K0 (listed.setIfInBounds i true) F' K' ∧ JD X l b F0 K0 D p (listed.setIfInBounds i true) s F' L' K')) : JD X l b F0 K0 D ((i, false) :: p) listed s F L K := by
  refine JD.one hi ho fun ι0 ι a w hF hS hag hok hp => ?_
  obtain ⟨ι1, w1, v, F1, L1, K1, hrun, h1, h2, h3, h4, h5⟩ := h ι a w hF hS
  have hag1 : ∀ u ∈ D, ι1 u = ι0 u := fun u hu => (h3 u hu).trans (hag u hu)
  have ho' : l.toArray[i]? = some o := by simpa using ho
  unfold wpOp
  simp only [ho']
  rw [if_pos (by rw [JL.wanted (ops := l.toArray) hF hg (by simpa using hj) hb]; simp)]
  left
  have hk := And.intro (fun hl => h4.st (D := D) h2 hag1 hok.tgk hl) (h5 hp hok ι0 ι1 _ w1 h1 h2 hag1 (fun hl => h4.st h2 hag1 hok.tgk hl))
  simp only [Oper.wp]
  rcases hrun with hr | ⟨hr, rfl⟩
  · rw [hr]; exact hk
  · rw [hr]; exact hk
/-- a guarded operation that is passed by, though it is one that would do something -/
theorem JD.passE {i d j e : Nat} {want q : Bool} {o : Oper} (hi : i < 10000) (ho : l[i]? = some o) (hg : o.guard = some (j, want)) (hj : (l[j]?).bind (·.dst) = some e) (hb : L.lookup e = some (.bool q)) (hne : (q == want) = false) (hd : o.dst = some d) (hN : d < X.N) (hkp : Kept b F0 K0 (listed.setIfInBounds i true) F K)
    (h : JD X l b F0 K0 D p (listed.setIfInBounds i true) s F ((d, undef) :: L) K) : JD X l b F0 K0 D ((i, false) :: p) listed s F L K := by
  refine JD.one hi ho fun ι0 ι a w hF hS hag hok hp => ?_
  have ho' : l.toArray[i]? = some o := by simpa using ho
  unfold wpOp
  simp only [ho']
  rw [if_neg (by rw [JL.wanted (ops := l.toArray) hF hg (by simpa using hj) hb, hne]; simp), hd]
  have := hF.put hN undef
  rw [show cV ι undef = undef from by simp [undef]] at this
  exact ⟨fun hl => hkp.st hS hag hok.tgk hl, h hp hok ι0 ι _ w this hS hag (fun hl => hkp.st hS hag hok.tgk hl)⟩
/-- a call -/
theorem JD.callC_ {i : Nat} {o : Oper} {f d : Nat} {args : Array Operand} {ts : Array TypeId} {vs : List Value} {Q : Value → List (Nat × Row) → Prop} (hi : i < 10000) (ho : l[i]? = some o) (hw : ∀ ι a, Fr X.N ι L a → Region.wanted o (yielded l.toArray a.tmps) = true) (hop : o.op = .call ⟨.value (.func f), args, ts⟩) (hd : o.dst = some d) (hN : d < X.N)
    (hargs : mapE (evO L) args.toList = some vs) (hfn : fnOk X.P f = true) (hkp : Kept b F0 K0 (listed.setIfInBounds i true) F K) (h : ∀ ι, Val ι K F → F.le (push ι K F) → C X.P f (vs.map (rV ι)) (push ι K F) Q)
    (hk : ∀ v Y, Q v Y → (∀ κ, rV κ v = v) → (∀ x ∈ Y, ∀ u ∈ x.2.cs, plain1 u = true) → New F Y → JD X l b F0 K0 D p (listed.setIfInBounds i true) s (F.add Y) ((d, v) :: L) K) : JD X l b F0 K0 D ((i, false) :: p) listed s F L K := by
  refine JD.one hi ho fun ι0 ι a w hF hS hag hok hp => ?_
  have ho' : l.toArray[i]? = some o := by simpa using ho
  unfold wpOp
  simp only [ho', hw ι a hF, if_true]
  left
  simp only [Oper.wp, callee_run (e := evO L) (fun x u hu => hF.ev hu) hop rfl rfl hargs hfn w, Oper.upon]
  have hc := h ι hS.val hS.val.le ι w (hS.push ι)
  rw [map_cV_rV] at hc
  simp only [List.nil_append, List.append_nil]
  refine hc.mono fun e w' ⟨v, Y, h1, h2, h5, h3, h4⟩ => ?_
  subst h1
  have hS' := hS.pull h3
  have hkp' : Kept b F0 K0 (listed.setIfInBounds i true) (F.add Y) K := by
    rcases hkp with hkp | ⟨hkp, Z, rfl⟩
    · exact .inl hkp
    · exact .inr ⟨hkp, Y ++ Z, by simp [Mem.add]⟩
  have hst : (listed.setIfInBounds i true).getD b false = false → St F0 ι0 K0 w' := fun hl => hkp'.st hS' hag hok.tgk hl
  rw [hd]
  have := hF.put hN v
  exact ⟨hst, hk v Y h4 h2 h5 (hS'.new_ h5) hp hok ι0 ι _ w' this hS' hag hst⟩
/-- two that may come up, one or the other first -/
theorem JD.two {i j : Nat} {o o2 : Oper} (hi : i < 100) (hj : j < 100) (ho : l[i]? = some o) (ho2 : l[j]? = some o2) (hg : o.guard = none) (hg2 : o2.guard = none)
    (h : Go1 X.P X.N D F L K o (fun F' L' K' => Kept b F0 K0 (listed.setIfInBounds i true) F' K' ∧ JD X l b F0 K0 D ((j, false) :: p) (listed.setIfInBounds i true) s F' L' K'))
    (h2 : Go1 X.P X.N D F L K o2 (fun F' L' K' => Kept b F0 K0 (listed.setIfInBounds j true) F' K' ∧ JD X l b F0 K0 D ((i, false) :: p) (listed.setIfInBounds j true) s F' L' K')) : JD X l b F0 K0 D ((10000 + 100 * i + j, false) :: p) listed s F L K := by
  intro hp hok ι0 ι a w hF hS hag hS0
  have hbig : ¬ (10000 + 100 * i + j < 10000) := by omega
  have hbig2 : 10000 + 100 * i + j < 1000000 := by omega
  have e1 : (10000 + 100 * i + j) / 100 % 100 = i := by omega
  have e2 : (10000 + 100 * i + j) % 100 = j := by omega
  simp only [planOk, hbig, hbig2, if_true, if_false, e1, e2, Bool.and_eq_true, beq_iff_eq, bne_iff_ne, ne_eq] at hp
  obtain ⟨p1, p2, p3, p4, p5⟩ := hp
  have hp1 : planOk l b (listed.setIfInBounds i true) ((j, false) :: p) = true := by
    simp only [planOk, show j < 10000 from by omega, if_true, p3, beq_self_eq_true, Bool.true_and]; exact p5
  have hp2 : planOk l b (listed.setIfInBounds j true) ((i, false) :: p) = true := by
    simp only [planOk, show i < 10000 from by omega, if_true, p4, beq_self_eq_true, Bool.true_and]
    rw [Array.setIfInBounds_comm _ _ (Ne.symm p2)]; exact p5
  rw [show pl ((10000 + 100 * i + j, false) :: p) = (pl p + 1) + 1 from by simp [pl, hbig, hbig2]]
  refine ⟨fun h0 => (by rw [p1] at h0; cases h0), fun k hk => ?_⟩
  rw [p1] at hk
  have key : ∀ (i' : Nat) (o' : Oper) (q : List (Nat × Bool)), l[i']? = some o' → o'.guard = none → planOk l b (listed.setIfInBounds i' true) q = true → pl q = pl p + 1 →
      Go1 X.P X.N D F L K o' (fun F' L' K' => Kept b F0 K0 (listed.setIfInBounds i' true) F' K' ∧ JD X l b F0 K0 D q (listed.setIfInBounds i' true) s F' L' K') →
      wpOp X.P l.toArray (Lft X.N X.D ι0 (sem X s)) i' (fun a' w' => ((listed.setIfInBounds i' true).getD b false = false → St F0 ι0 K0 w') ∧ wpAnyB X.P .any l.toArray (Lft X.N X.D ι0 (sem X s)) b (fun w => St F0 ι0 K0 w) (pl p + 1) (listed.setIfInBounds i' true) a' w') a w := by
    intro i' o' q ho' hg' hq hlen hgo
    obtain ⟨ι1, w1, v, F1, L1, K1, hrun, h1, h2, h3, h4, h5⟩ := hgo ι a w hF hS
    have hag1 : ∀ u ∈ D, ι1 u = ι0 u := fun u hu => (h3 u hu).trans (hag u hu)
    have ho'' : l.toArray[i']? = some o' := by simpa using ho'
    unfold wpOp
    simp only [ho'', Region.wanted, hg', if_true]
    left
    have hk := h5 hq hok ι0 ι1 _ w1 h1 h2 hag1 (fun hl => h4.st h2 hag1 hok.tgk hl)
    rw [hlen] at hk
    have hk := And.intro (fun hl => h4.st (D := D) h2 hag1 hok.tgk hl) hk
    simp only [Oper.wp]
    rcases hrun with hr | ⟨hr, rfl⟩
    · rw [hr]; exact hk
    · rw [hr]; exact hk
  rcases List.mem_cons.1 hk with rfl | hk
  · exact key k o _ ho hg hp1 (by simp [pl, show j < 10000 from by omega]) h
  · simp only [List.mem_singleton] at hk
    subst hk
    exact key k o2 _ ho2 hg2 hp2 (by simp [pl, show i < 10000 from by omega]) h2
theorem JD.weak {L1 : Slots} {K1 : Own} (hL : LSub L1 L) (hK : KSub K1 K) (h : JD X l b F0 K0 D p listed s F L1 K1) : JD X l b F0 K0 D p listed s F L K :=
  fun hp hok ι0 ι a w hF hS hag hS0 => h hp hok ι0 ι a w (hF.weak hL) (hS.weak hK) hag hS0
theorem lookup_map_mem {α : Type} {ms : List Nat} (eD : Nat → Nat) (eV : Nat → α) (hnd : (ms.map eD).Nodup) {m : Nat} (hm : m ∈ ms) (L : List (Nat × α)) : ((ms.map fun x => (eD x, eV x)) ++ L).lookup (eD m) = some (eV m) := by
  induction ms with
  | nil => cases hm
  | cons x ms ih =>
    simp only [List.map_cons, List.nodup_cons] at hnd
    rw [List.map_cons, List.cons_append, List.lookup_cons]
    rcases List.mem_cons.1 hm with rfl | hm
    · simp
    · have : eD m ≠ eD x := fun e => hnd.1 (List.mem_map.2 ⟨m, hm, e⟩)
      have hb : (eD m == eD x) = false := by simpa using this
      simp only [hb]
      exact ih hnd.2 hm
theorem LSub.of_all {L0 L : Slots} (h : ∀ x ∈ L0, L.lookup x.1 = some x.2) : LSub L0 L := by
  induction L0 with
  | nil => trivial
  | cons x L0 ih => exact ⟨h x (List.mem_cons_self ..), ih fun y hy => h y (List.mem_cons_of_mem _ hy)⟩
theorem LSub.all_of {L0 L : Slots} (h : LSub L0 L) : ∀ x ∈ L0, L.lookup x.1 = some x.2 := by
  induction L0 with
  | nil => intro x hx; cases hx
  | cons y L0 ih =>
    intro x hx
    rcases List.mem_cons.1 hx with rfl | hx
    · exact h.1
    · exact ih h.2 x hx
theorem KSub.of_all {K0 K : Own} (hn : (K0.map Prod.fst).Nodup) (h : ∀ x ∈ K0, K.lookup x.1 = some x.2) : KSub K0 K := by
  induction K0 with
  | nil => trivial
  | cons x K0 ih =>
    simp only [List.map_cons, List.nodup_cons] at hn
    refine ⟨h x (List.mem_cons_self ..), ?_, ih hn.2 fun y hy => h y (List.mem_cons_of_mem _ hy)⟩
    rw [List.all_eq_true]
    intro y hy
    simp only [bne_iff_ne, ne_eq]
    exact fun e => hn.1 (List.mem_map.2 ⟨y, hy, e⟩)
/-- several operations that may come up in any order, each of which makes a row of its own -/
theorem JD.many {c : Nat} {ms : List Nat} (eD : Nat → Nat) (eV : Nat → Value) (eR : Nat → Row) {L0 : Slots} (hc : 1000000 ≤ c) (hms : decM 20 (c - 1000000) = ms) (hnd : (ms.map eD).Nodup) (hlen : ms.length ≤ 20)
    (hgo : ∀ m ∈ ms, ∀ C : List Nat, (∀ x ∈ C, x ∈ ms) → m ∉ C → ∃ o, l[m]? = some o ∧ o.guard = none ∧ ∀ T : Pst, T F ((eD m, eV m) :: ((C.map fun x => (eD x, eV x)) ++ L)) ((eD m, eR m) :: (C.map fun x => (eD x, eR x))) → Go1 X.P X.N D F ((C.map fun x => (eD x, eV x)) ++ L) (C.map fun x => (eD x, eR x)) o T)
    (hL0 : LSub L0 L) (hd0 : (L0.all fun x => !(ms.map eD).contains x.1) = true)
    (hk : JD X l b F [] D p (ms.foldl (fun a m => a.setIfInBounds m true) listed) s F ((ms.map fun x => (eD x, eV x)) ++ L0) (ms.map fun x => (eD x, eR x))) :
    JD X l b F [] D ((c, false) :: p) listed s F L [] := by
  intro hp hok ι0 ι a w hF hS hag hS0
  have hbig : ¬ (c < 10000) := by omega
  have hbig2 : ¬ (c < 1000000) := by omega
  simp only [planOk, hbig, hbig2, if_false, Bool.and_eq_true, hms] at hp
  obtain ⟨hmo, hp⟩ := hp
  rw [show pl ((c, false) :: p) = pl p + ms.length from by simp [pl, hbig, hbig2, hms]]
  have hmsn : ms.Nodup := by
    have : ∀ q : List Nat, (q.map eD).Nodup → q.Nodup := by
      intro q
      induction q with
      | nil => intro _; exact List.nodup_nil
      | cons x q ih =>
        intro h
        simp only [List.map_cons, List.nodup_cons] at h ⊢
        exact ⟨fun hx => h.1 (List.mem_map.2 ⟨x, hx, rfl⟩), ih h.2⟩
    exact this ms hnd
  have main : ∀ n (R C : List Nat) (f : Nat) (listed' : Array Bool) (ι : Nat → Nat) (a : Act) (w : World), R.length = n → n ≤ f → manyOk l f R listed' = true → (R ++ C).Perm ms → R.foldl (fun a m => a.setIfInBounds m true) listed' = ms.foldl (fun a m => a.setIfInBounds m true) listed →
      Fr X.N ι ((C.map fun x => (eD x, eV x)) ++ L) a → St F ι (C.map fun x => (eD x, eR x)) w → (∀ u ∈ D, ι u = ι0 u) → (listed'.getD b false = false → St F ι0 [] w) →
      wpAnyB X.P .any l.toArray (Lft X.N X.D ι0 (sem X s)) b (fun w => St F ι0 [] w) (pl p + n) listed' a w := by
    intro n
    induction n with
    | zero =>
      intro R C f listed' ι a w hR _ _ hperm hls hF hS hag hS0
      have hR0 : R = [] := List.eq_nil_of_length_eq_zero hR
      subst hR0
      simp only [List.nil_append] at hperm
      simp only [List.foldl_nil] at hls
      subst hls
      have hndC : (C.map eD).Nodup := (hperm.map eD).nodup_iff.2 hnd
      have hL1 : LSub ((ms.map fun x => (eD x, eV x)) ++ L0) ((C.map fun x => (eD x, eV x)) ++ L) := by
        refine LSub.of_all fun x hx => ?_
        rcases List.mem_append.1 hx with hx | hx
        · obtain ⟨m, hm, rfl⟩ := List.mem_map.1 hx
          exact lookup_map_mem eD eV hndC (hperm.mem_iff.2 hm) L
        · have h1 := hL0.all_of x hx
          have h2 := List.all_eq_true.1 hd0 x hx
          rw [lookup_append_right]
          · exact h1
          · intro hm
            obtain ⟨y, hy, e⟩ := List.mem_map.1 hm
            obtain ⟨m, hm2, rfl⟩ := List.mem_map.1 hy
            simp only [Bool.not_eq_true', List.contains_eq_mem, decide_eq_false_iff_not] at h2
            exact h2 (List.mem_map.2 ⟨m, hperm.mem_iff.1 hm2, e⟩)
      have hK1 : KSub (ms.map fun x => (eD x, eR x)) (C.map fun x => (eD x, eR x)) := by
        refine KSub.of_all (by simpa [List.map_map, Function.comp_def] using hnd) fun x hx => ?_
        obtain ⟨m, hm, rfl⟩ := List.mem_map.1 hx
        simpa using lookup_map_mem eD eR hndC (hperm.mem_iff.2 hm) []
      exact JD.weak hL1 hK1 hk hp hok ι0 ι a w hF hS hag hS0
    | succ n ih =>
      intro R C f listed' ι a w hR hf hmo hperm hls hF hS hag hS0
      obtain ⟨f, rfl⟩ : ∃ g, f = g + 1 := ⟨f - 1, by omega⟩
      have hRne : R.isEmpty = false := by cases R with | nil => simp at hR | cons x R => rfl
      simp only [manyOk, hRne, Bool.false_or, Bool.and_eq_true, beq_iff_eq] at hmo
      obtain ⟨hrd, hall⟩ := hmo
      have hndRC : (R ++ C).Nodup := hperm.nodup_iff.2 hmsn
      refine ⟨fun h0 => (by rw [hrd] at h0; subst h0; cases hRne), fun k hk2 => ?_⟩
      rw [hrd] at hk2
      have hkms : k ∈ ms := hperm.mem_iff.1 (List.mem_append_left _ hk2)
      have hkC : k ∉ C := fun h => (List.nodup_append.1 hndRC).2.2 k hk2 k h rfl
      obtain ⟨o, ho, hg, hop⟩ := hgo k hkms C (fun x hx => hperm.mem_iff.1 (List.mem_append_right _ hx)) hkC
      have hlen2 : (R.erase k).length = n := by rw [List.length_erase_of_mem hk2]; omega
      have hperm2 : (R.erase k ++ k :: C).Perm ms := by
        refine List.Perm.trans ?_ hperm
        refine List.perm_middle.trans ?_
        exact ((List.perm_cons_erase hk2).symm.append_right C)
      have hls2 : (R.erase k).foldl (fun a m => a.setIfInBounds m true) (listed'.setIfInBounds k true) = ms.foldl (fun a m => a.setIfInBounds m true) listed := by
        rw [← hls]
        have hcm : ∀ (a : Array Bool) (x y : Nat), (a.setIfInBounds x true).setIfInBounds y true = (a.setIfInBounds y true).setIfInBounds x true := fun a x y => by
          by_cases h : x = y
          · subst h; rfl
          · exact Array.setIfInBounds_comm _ _ h
        exact ((List.perm_cons_erase hk2).foldl_eq' (fun x _ y _ z => hcm z x y) listed').symm
      have hgo2 := hop (fun F' L' K' => F' = F ∧ L' = (((k :: C).map fun x => (eD x, eV x)) ++ L) ∧ K' = ((k :: C).map fun x => (eD x, eR x))) ⟨rfl, rfl, rfl⟩
      obtain ⟨ι1, w1, v, F1, L1, K1, hrun, h1, h2, h3, rfl, rfl, rfl⟩ := hgo2 ι a w hF hS
      have hag1 : ∀ u ∈ D, ι1 u = ι0 u := fun u hu => (h3 u hu).trans (hag u hu)
      have ho' : l.toArray[k]? = some o := by simpa using ho
      have hS1 : St F1 ι0 [] w1 := (h2.weak (K0 := []) trivial).agree (fun u hu => (hag1 u hu).symm) hok.tgk
      have hrest := ih (R.erase k) (k :: C) f (listed'.setIfInBounds k true) ι1 _ w1 hlen2 (by omega) (List.all_eq_true.1 hall k hk2) hperm2 hls2 h1 h2 hag1 (fun _ => hS1)
      have hfin := And.intro (fun (_ : (listed'.setIfInBounds k true).getD b false = false) => hS1) hrest
      unfold wpOp
      simp only [ho', Region.wanted, hg, if_true]
      left
      simp only [Oper.wp]
      rcases hrun with hr | ⟨hr, rfl⟩
      · rw [hr]; exact hfin
      · rw [hr]; exact hfin
  exact main ms.length ms [] 20 listed ι a w rfl hlen hmo (by simp) rfl (by simpa using hF) (by simpa using hS) hag hS0

end
end Go.Proofs.Ytbeblgjibfoanaa.Am
