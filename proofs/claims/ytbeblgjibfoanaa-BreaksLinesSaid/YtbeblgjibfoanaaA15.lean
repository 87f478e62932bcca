/- Rules for walking Go functions with memory told by tags (A15). -/
import Derived.Test.YtbeblgjibfoanaaA14
import Derived.Tactics
namespace Go.Proofs.Ytbeblgjibfoanaa.Am
set_option linter.unusedSimpArgs false
set_option linter.unusedVariables false
open Go Go.RowKit
/-! The walk: what is left to run stands in a stack. -/
abbrev Pst := Mem → Slots → Own → Prop
def Lft (N : Nat) (D : List Nat) (ι0 : Nat → Nat) (S : Exit → Pst) : Exit → Act → World → Prop :=
  fun e a w => ∃ (ι : Nat → Nat) (F : Mem) (L : Slots) (K : Own), Fr N ι L a ∧ St F ι K w ∧ (∀ t ∈ D, ι t = ι0 t) ∧ S e F L K
theorem Lft.tr {N : Nat} {D : List Nat} {ι0 ι1 : Nat → Nat} {S : Exit → Pst} (h : ∀ t ∈ D, ι1 t = ι0 t) {e : Exit} {a : Act} {w : World} (hl : Lft N D ι1 S e a w) : Lft N D ι0 S e a w := by
  obtain ⟨ι, F, L, K, h1, h2, h3, h4⟩ := hl
  exact ⟨ι, F, L, K, h1, h2, fun t ht => (h3 t ht).trans (h t ht), h4⟩
def WP (P : Program) (N : Nat) (D : List Nat) (c : Code) (S : Exit → Pst) : Pst := fun F L K =>
  ∀ (ι : Nat → Nat) (a : Act) (w : World), Fr N ι L a → St F ι K w → c.wp P (Lft N D ι S) a w
inductive SI where
  | code (c : Code)
  | blk (id : Nat)
  | back (Φ : Pst)
structure Cx where
  P : Program
  N : Nat
  D : List Nat
  R : Exit → Pst
def sem (X : Cx) : List SI → Exit → Pst
  | [], e => X.R e
  | .code c :: s, e => match e with
    | .normal => WP X.P X.N X.D c (sem X s)
    | e => sem X s e
  | .blk id :: s, e => match e with
    | .exit j => if j = id then sem X s .normal else sem X s (.exit j)
    | e => sem X s e
  | .back Φ :: s, e => match e with
    | .normal => Φ
    | e => sem X s e
def J (X : Cx) (s : List SI) : Pst := sem X s .normal
def JL (X : Cx) (ops : Array Oper) (l : List Oper) (s : List SI) : Pst := fun F L K =>
  ∀ (ι : Nat → Nat) (a : Act) (w : World), Fr X.N ι L a → St F ι K w → wpList X.P ops (Lft X.N X.D ι (sem X s)) l a w
theorem upon_mono {P : Program} {o : Oper} {a : Act} {n n' : Act → World → Prop} {Q Q' : Exit → Act → World → Prop} (hn : ∀ a w, n a w → n' a w) (hQ : ∀ e a w, Q e a w → Q' e a w) {r : Result Next} (h : o.upon P a n Q r) : o.upon P a n' Q' r := by
  have hlet : LetsOut Q → LetsOut Q' := fun ⟨a, w, h⟩ => ⟨a, w, hQ _ _ _ h⟩
  cases r with
  | ok x w =>
    cases x <;> simp only [Oper.upon] at h ⊢ <;> first
      | exact hn _ _ h
      | exact Calls.mono h (fun e w' he => by cases e <;> first | exact hn _ _ he | exact hQ _ _ _ he | exact hlet he)
      | exact Rows.mono h (fun _ _ he => hn _ _ he)
  | halt x w => cases x <;> simp only [Oper.upon] at h ⊢ <;> exact hQ _ _ _ h
theorem wpList_mono {P : Program} {ops : Array Oper} {Q Q' : Exit → Act → World → Prop} (hQ : ∀ e a w, Q e a w → Q' e a w) : ∀ {l : List Oper} {a : Act} {w : World}, wpList P ops Q l a w → wpList P ops Q' l a w
  | [], _, _, h => hQ _ _ _ h
  | o :: l, a, w, h => by
    unfold wpList at h ⊢
    split
    · rename_i hw
      rw [if_pos hw] at h
      rcases h with h | ⟨h1, a', w', h2⟩
      · exact .inl (upon_mono (fun a w => wpList_mono hQ) hQ h)
      · exact .inr ⟨h1, a', w', hQ _ _ _ h2⟩
    · rename_i hw
      rw [if_neg hw] at h
      exact wpList_mono hQ h
section
variable {X : Cx} {F : Mem} {L : Slots} {K : Own} {s : List SI}
theorem J.seq {x y : Code} (h : J X (.code x :: .code y :: s) F L K) : J X (.code (.seq x y) :: s) F L K := by
  intro ι a w hF hS
  refine wp_seq (wp_mono (h ι a w hF hS) fun e a' w' hl => ?_)
  obtain ⟨ι1, F1, L1, K1, h1, h2, h3, h4⟩ := hl
  cases e with
  | normal => exact wp_mono (h4 ι1 a' w' h1 h2) fun e a2 w2 hl => Lft.tr h3 hl
  | _ => exact ⟨ι1, F1, L1, K1, h1, h2, h3, h4⟩
theorem J.skip (h : J X s F L K) : J X (.code .skip :: s) F L K := fun ι a w hF hS => wp_skip ⟨ι, F, L, K, hF, hS, fun _ _ => rfl, h⟩
theorem J.label {l : Nat} (h : J X s F L K) : J X (.code (.label l) :: s) F L K := fun ι a w hF hS => wp_label ⟨ι, F, L, K, hF, hS, fun _ _ => rfl, h⟩
theorem J.block {id : Nat} {c : Code} (h : J X (.code c :: .blk id :: s) F L K) : J X (.code (.block id c) :: s) F L K := by
  intro ι a w hF hS
  refine wp_block (wp_mono (h ι a w hF hS) fun e a' w' hl => ?_)
  obtain ⟨ι1, F1, L1, K1, h1, h2, h3, h4⟩ := hl
  cases e with
  | exit j =>
    simp only [Exit.inBlock]
    simp only [sem] at h4
    split at h4
    · rename_i e; rw [if_pos e]; exact ⟨ι1, F1, L1, K1, h1, h2, h3, h4⟩
    · rename_i e; rw [if_neg e]; exact ⟨ι1, F1, L1, K1, h1, h2, h3, h4⟩
  | _ => exact ⟨ι1, F1, L1, K1, h1, h2, h3, h4⟩
theorem J.blk {id : Nat} (h : J X s F L K) : J X (.blk id :: s) F L K := h
/-- out of a block -/
def exitS (id : Nat) : List SI → List SI
  | [] => []
  | .blk j :: s => if id = j then s else exitS id s
  | _ :: s => exitS id s
def hasB (id : Nat) : List SI → Bool
  | [] => false
  | .blk j :: s => id == j || hasB id s
  | _ :: s => hasB id s
theorem sem_exit {id : Nat} : ∀ {s : List SI}, hasB id s = true → sem X (exitS id s) .normal F L K → sem X s (.exit id) F L K
  | [], h, _ => by simp [hasB] at h
  | .blk j :: s, h, hj => by
    simp only [exitS] at hj
    simp only [sem]
    by_cases e : id = j
    · rw [if_pos e] at hj ⊢; exact hj
    · rw [if_neg e] at hj ⊢
      have : hasB id s = true := by
        have : (id == j) = false := by simpa using e
        simpa [hasB, this] using h
      exact sem_exit this hj
  | .code c :: s, h, hj => sem_exit (s := s) h hj
  | .back Φ :: s, h, hj => sem_exit (s := s) h hj
theorem J.exit {id : Nat} (hb : hasB id s = true) (h : J X (exitS id s) F L K) : J X (.code (.exit id) :: s) F L K := fun ι a w hF hS => wp_exit ⟨ι, F, L, K, hF, hS, fun _ _ => rfl, sem_exit hb h⟩
theorem sem_ret : ∀ {s : List SI}, X.R .ret F L K → sem X s .ret F L K
  | [], h => h
  | .blk j :: s, h => sem_ret (s := s) h
  | .code c :: s, h => sem_ret (s := s) h
  | .back Φ :: s, h => sem_ret (s := s) h
theorem J.ret (h : X.R .ret F L K) : J X (.code .ret :: s) F L K := fun ι a w hF hS => wp_ret ⟨ι, F, L, K, hF, hS, fun _ _ => rfl, sem_ret h⟩
theorem J.fin (h : X.R .normal F L K) : J X [] F L K := h
theorem J.cond {c : Operand} {x y : Code} {b : Bool} (hc : evO L c = some (.bool b)) (ht : b = true → J X (.code x :: s) F L K) (hf : b = false → J X (.code y :: s) F L K) : J X (.code (.cond c x y) :: s) F L K := by
  intro ι a w hF hS
  have : a.eval c = .bool b := hF.ev hc
  exact wp_cond_split this (fun h => ht h ι a w hF hS) (fun h => hf h ι a w hF hS)
theorem J.condT {c : Operand} {x y : Code} (hc : evO L c = some (.bool true)) (h : J X (.code x :: s) F L K) : J X (.code (.cond c x y) :: s) F L K := J.cond hc (fun _ => h) (fun h => by cases h)
theorem J.condF {c : Operand} {x y : Code} (hc : evO L c = some (.bool false)) (h : J X (.code y :: s) F L K) : J X (.code (.cond c x y) :: s) F L K := J.cond hc (fun h => by cases h) (fun _ => h)
theorem J.condD {c : Operand} {x y : Code} {p : Prop} [Decidable p] (hc : evO L c = some (.bool (decide p))) (ht : p → J X (.code x :: s) F L K) (hf : ¬ p → J X (.code y :: s) F L K) : J X (.code (.cond c x y) :: s) F L K :=
  J.cond hc (fun h => ht (of_decide_eq_true h)) (fun h => hf (of_decide_eq_false h))
theorem J.condN {c : Operand} {x y : Code} {p : Prop} [Decidable p] (hc : evO L c = some (.bool (!decide p))) (ht : ¬ p → J X (.code x :: s) F L K) (hf : p → J X (.code y :: s) F L K) : J X (.code (.cond c x y) :: s) F L K :=
  J.cond hc (fun h => ht (by simpa using h)) (fun h => hf (by simpa using h))
theorem J.region {id : Nat} {ops : Array Oper} (h : JL X ops ops.toList s F L K) : J X (.code (.region id ops false) :: s) F L K := fun ι a w hF hS => wp_region_list (h ι a w hF hS)
theorem J.reg {id : Nat} {l : List Oper} (h : JL X l.toArray l s F L K) : J X (.code (.region id l.toArray false) :: s) F L K := J.region (by simpa using h)
theorem JL.nil {ops : Array Oper} (h : J X s F L K) : JL X ops [] s F L K := fun ι a w hF hS => ⟨ι, F, L, K, hF, hS, fun _ _ => rfl, h⟩
theorem JL.tr {ops : Array Oper} {l : List Oper} {ι0 ι1 : Nat → Nat} (h : ∀ t ∈ X.D, ι1 t = ι0 t) {a : Act} {w : World} (hl : wpList X.P ops (Lft X.N X.D ι1 (sem X s)) l a w) : wpList X.P ops (Lft X.N X.D ι0 (sem X s)) l a w := by
  exact wpList_mono (fun e a w hq => Lft.tr h hq) hl
/-- one operation -/
theorem JL.step {ops : Array Oper} {o : Oper} {l : List Oper} (hg : o.guard = none) (h : Go1 X.P X.N X.D F L K o (fun F' L' K' => JL X ops l s F' L' K')) : JL X ops (o :: l) s F L K := by
  intro ι a w hF hS
  obtain ⟨ι1, w1, v, F1, L1, K1, hrun, h1, h2, h3, h4⟩ := h ι a w hF hS
  refine wpList_plain hg fun Kc hK => ?_
  have hk := hK _ _ (JL.tr h3 (h4 ι1 _ w1 h1 h2))
  simp only [Oper.wp]
  rcases hrun with hr | ⟨hr, rfl⟩
  · rw [hr]; exact hk
  · rw [hr]; exact hk
/-- what a guard says -/
theorem JL.wanted {ops : Array Oper} {o : Oper} {j d : Nat} {want b : Bool} {N : Nat} {ι : Nat → Nat} {a : Act} (hF : Fr N ι L a) (hg : o.guard = some (j, want)) (hj : (ops[j]?).bind (·.dst) = some d) (hb : L.lookup d = some (.bool b)) : Region.wanted o (yielded ops a.tmps) = (b == want) := by
  have hs := hF.slot d _ hb
  simp only [Region.wanted, hg, yielded, hj, Option.bind_some, hs, cV_bool]
  cases b <;> cases want <;> rfl
theorem JL.stepG {ops : Array Oper} {o : Oper} {l : List Oper} {j d : Nat} {want : Bool} (hg : o.guard = some (j, want)) (hj : (ops[j]?).bind (·.dst) = some d) (hb : L.lookup d = some (.bool want)) (h : Go1 X.P X.N X.D F L K o (fun F' L' K' => JL X ops l s F' L' K')) : JL X ops (o :: l) s F L K := by
  intro ι a w hF hS
  obtain ⟨ι1, w1, v, F1, L1, K1, hrun, h1, h2, h3, h4⟩ := h ι a w hF hS
  have hk := JL.tr h3 (h4 ι1 _ w1 h1 h2)
  unfold wpList
  rw [if_pos (by rw [JL.wanted hF hg hj hb]; simp)]
  left
  simp only [Oper.wp]
  rcases hrun with hr | ⟨hr, rfl⟩
  · rw [hr]; exact hk
  · rw [hr]; exact hk
theorem JL.pass {ops : Array Oper} {o : Oper} {l : List Oper} {j d e : Nat} {want b : Bool} (hg : o.guard = some (j, want)) (hj : (ops[j]?).bind (·.dst) = some d) (hb : L.lookup d = some (.bool b)) (hne : (b == want) = false) (hd : o.dst = some e) (hN : e < X.N) (h : JL X ops l s F ((e, undef) :: L) K) : JL X ops (o :: l) s F L K := by
  intro ι a w hF hS
  unfold wpList
  rw [if_neg (by rw [JL.wanted hF hg hj hb, hne]; simp), hd]
  have := hF.put hN undef
  rw [show cV ι undef = undef from by simp [undef]] at this
  exact h ι _ w this hS
theorem JL.passU {ops : Array Oper} {o : Oper} {l : List Oper} {j d e : Nat} {want : Bool} (hg : o.guard = some (j, want)) (hj : (ops[j]?).bind (·.dst) = some d) (hb : L.lookup d = some undef) (hd : o.dst = some e) (hN : e < X.N) (h : JL X ops l s F ((e, undef) :: L) K) : JL X ops (o :: l) s F L K := by
  intro ι a w hF hS
  have hs := hF.slot d _ hb
  unfold wpList
  rw [if_neg (by simp [Region.wanted, hg, yielded, hj, hs, undef]), hd]
  have := hF.put hN undef
  rw [show cV ι undef = undef from by simp [undef]] at this
  exact h ι _ w this hS
/-- a test's outcome, told apart -/
theorem JL.case {ops : Array Oper} {l : List Oper} {d : Nat} {b : Bool} (hb : L.lookup d = some (.bool b)) (ht : b = true → JL X ops l s F ((d, .bool true) :: L) K) (hf : b = false → JL X ops l s F ((d, .bool false) :: L) K) : JL X ops l s F L K := by
  intro ι a w hF hS
  have aux : ∀ q, b = q → Fr X.N ι ((d, .bool q) :: L) a := fun q e => ⟨hF.size, hF.defers, fun s v hv => by
    rw [List.lookup_cons] at hv
    split at hv
    · rename_i e2
      have e1 : s = d := by simpa using e2
      subst e1
      simp only [Option.some.injEq] at hv
      subst hv
      rw [← e]; exact hF.slot s _ hb
    · exact hF.slot s v hv⟩
  cases hq : b with
  | true => exact ht hq ι a w (aux true hq) hS
  | false => exact hf hq ι a w (aux false hq) hS
theorem JL.caseD {ops : Array Oper} {l : List Oper} {d : Nat} {p : Prop} [Decidable p] (hb : L.lookup d = some (.bool (decide p))) (ht : p → JL X ops l s F ((d, .bool true) :: L) K) (hf : ¬ p → JL X ops l s F ((d, .bool false) :: L) K) : JL X ops l s F L K :=
  JL.case hb (fun h => ht (of_decide_eq_true h)) (fun h => hf (of_decide_eq_false h))
theorem JL.caseN {ops : Array Oper} {l : List Oper} {d : Nat} {p : Prop} [Decidable p] (hb : L.lookup d = some (.bool (!decide p))) (ht : ¬ p → JL X ops l s F ((d, .bool true) :: L) K) (hf : p → JL X ops l s F ((d, .bool false) :: L) K) : JL X ops l s F L K :=
  JL.case hb (fun h => ht (by simpa using h)) (fun h => hf (by simpa using h))
/-- less is known -/
def LSub : Slots → Slots → Prop
  | [], _ => True
  | x :: L0, L => L.lookup x.1 = some x.2 ∧ LSub L0 L
def KSub : Own → Own → Prop
  | [], _ => True
  | x :: K0, K => K.lookup x.1 = some x.2 ∧ (K0.all (·.1 != x.1)) = true ∧ KSub K0 K
theorem LSub.get : ∀ {L0 L : Slots}, LSub L0 L → ∀ s v, L0.lookup s = some v → L.lookup s = some v
  | [], _, _, s, v, h => by simp at h
  | x :: L0, L, h, s, v, hv => by
    obtain ⟨u, y⟩ := x
    rw [List.lookup_cons] at hv
    split at hv
    · rename_i e
      have e1 : s = u := by simpa using e
      subst e1
      simp only [Option.some.injEq] at hv
      subst hv
      exact h.1
    · exact LSub.get h.2 s v hv
theorem Fr.weak {N : Nat} {ι : Nat → Nat} {L0 : Slots} {a : Act} (h : Fr N ι L a) (hs : LSub L0 L) : Fr N ι L0 a := ⟨h.size, h.defers, fun s v hv => h.slot s v (hs.get s v hv)⟩
theorem KSub.mem : ∀ {K0 K : Own}, KSub K0 K → ∀ x ∈ K0, K.lookup x.1 = some x.2
  | [], _, _, x, h => by simp at h
  | y :: K0, K, h, x, hx => by
    rcases List.mem_cons.1 hx with rfl | hx
    · exact h.1
    · exact KSub.mem h.2.2 x hx
theorem KSub.tags : ∀ {K0 K : Own}, KSub K0 K → (K0.map Prod.fst).Nodup
  | [], _, _ => by simp
  | y :: K0, K, h => by
    simp only [List.map_cons, List.nodup_cons]
    refine ⟨fun hm => ?_, KSub.tags h.2.2⟩
    obtain ⟨x, hx, e⟩ := List.mem_map.1 hm
    have := List.all_eq_true.1 h.2.1 x hx
    simp [e] at this
theorem nodup_map_inj {α β γ : Type} {f : α → β} {g : α → γ} : ∀ {l : List α}, (l.map f).Nodup → (∀ x ∈ l, ∀ y ∈ l, g x = g y → f x = f y) → (l.map g).Nodup
  | [], _, _ => by simp
  | x :: l, h, hi => by
    simp only [List.map_cons, List.nodup_cons] at h ⊢
    refine ⟨fun hm => h.1 ?_, nodup_map_inj h.2 (fun a ha b hb => hi a (List.mem_cons_of_mem _ ha) b (List.mem_cons_of_mem _ hb))⟩
    obtain ⟨y, hy, e⟩ := List.mem_map.1 hm
    exact List.mem_map.2 ⟨y, hy, (hi x List.mem_cons_self y (List.mem_cons_of_mem _ hy) e.symm).symm⟩
theorem St.weak {ι : Nat → Nat} {K0 : Own} {w : World} (h : St F ι K w) (hs : KSub K0 K) : St F ι K0 w := by
  have hm : ∀ x ∈ K0, x ∈ K := fun x hx => lookup_mem (hs.mem x hx)
  have hnd := List.nodup_append.1 h.nodup
  refine ⟨h.below, List.nodup_append.2 ⟨?_, hnd.2.1, fun a ha b hb => hnd.2.2 a ?_ b hb⟩, fun x hx => h.own x (hm x hx), h.ext⟩
  · exact nodup_map_inj (f := Prod.fst) hs.tags fun x hx y hy e => by rw [nodup_inj (f := fun x : Nat × Row => ι x.1) hnd.1 x (hm x hx) y (hm y hy) e]
  · obtain ⟨x, hx, rfl⟩ := List.mem_map.1 ha
    exact List.mem_map.2 ⟨x, hm x hx, rfl⟩
theorem WP.weak {P : Program} {N : Nat} {D : List Nat} {c : Code} {S : Exit → Pst} {L0 : Slots} {K0 : Own} (hL : LSub L0 L) (hK : KSub K0 K) (h : WP P N D c S F L0 K0) : WP P N D c S F L K := fun ι a w hF hS => h ι a w (hF.weak hL) (hS.weak hK)
theorem J.weak {c : Code} {L0 : Slots} {K0 : Own} (hL : LSub L0 L) (hK : KSub K0 K) (h : J X (.code c :: s) F L0 K0) : J X (.code c :: s) F L K := WP.weak hL hK h
theorem JL.weak {ops : Array Oper} {l : List Oper} {L0 : Slots} {K0 : Own} (hL : LSub L0 L) (hK : KSub K0 K) (h : JL X ops l s F L0 K0) : JL X ops l s F L K := fun ι a w hF hS => h ι a w (hF.weak hL) (hS.weak hK)
/-- what holds behind a piece is told -/
theorem sem_mono {Φ Ψ : Pst} (hΦ : ∀ F L K, Φ F L K → Ψ F L K) : ∀ {e : Exit} {F : Mem} {L : Slots} {K : Own}, sem X (.back Φ :: s) e F L K → sem X (.back Ψ :: s) e F L K := by
  intro e F L K h
  cases e <;> first | exact hΦ _ _ _ h | exact h
theorem J.cut {c : Code} (Φ : Pst) (h : J X (.code c :: .back Φ :: s) F L K) (hn : ∀ F' L' K', Φ F' L' K' → J X s F' L' K') : J X (.code c :: s) F L K := by
  intro ι a w hF hS
  refine wp_mono (h ι a w hF hS) fun e a' w' hl => ?_
  obtain ⟨ι1, F1, L1, K1, h1, h2, h3, h4⟩ := hl
  refine ⟨ι1, F1, L1, K1, h1, h2, h3, ?_⟩
  cases e with
  | normal => exact hn _ _ _ h4
  | _ => exact h4
theorem J.back {Φ : Pst} (h : Φ F L K) : J X (.back Φ :: s) F L K := h
/-- a loop: I says how it stands at each round's head, by a number that falls -/
theorem wp_loop_ix {P : Program} {c : Code} {Q : Exit → Act → World → Prop} (I : Nat → Act → World → Prop) (round : ∀ n a w, I n a w → c.wp P (Exit.then (fun a' w' => ∃ m, m < n ∧ I m a' w') Q) a w) :
    ∀ (n : Nat) (a : Act) (w : World), I n a w → (Code.loop c).wp P Q a w := by
  intro n a w hI b k cs
  have key : ∀ n a w, I n a w → ∃ e a' w', Q e a' w' ∧ Arrives P (lone (b.at a (.code c :: .inLoop c :: k)) cs w) b k cs e a' w' := by
    intro n
    induction n using Nat.strongRecOn with
    | _ n ih =>
      intro a w hI
      obtain ⟨e, a₁, w₁, hq, harr⟩ := round n a w hI b (.inLoop c :: k) cs
      cases e with
      | normal =>
        obtain ⟨m, hlt, hI₁⟩ := hq
        obtain ⟨e₂, a₂, w₂, hq₂, harr₂⟩ := ih m hlt a₁ w₁ hI₁
        exact ⟨e₂, a₂, w₂, hq₂, .of_steps (Steps.trans harr (.one step_inLoop)) harr₂⟩
      | exit id => exact ⟨_, a₁, w₁, hq, .pass (x := .inLoop c) rfl (fun _ _ => .inl (by simp)) harr⟩
      | goto l => exact ⟨_, a₁, w₁, hq, .pass (x := .inLoop c) rfl (fun _ _ => .inl (by simp)) harr⟩
      | ret => exact ⟨_, a₁, w₁, hq, .pass (x := .inLoop c) rfl (fun _ _ => .inl (by simp)) harr⟩
      | panic ch => exact ⟨_, a₁, w₁, hq, .pass (x := .inLoop c) rfl (fun _ _ => .inl (by simp)) harr⟩
      | outgrown => exact ⟨_, a₁, w₁, hq, .pass (x := .inLoop c) rfl (fun _ _ => .inl (by simp)) harr⟩
  obtain ⟨e, a', w', hq, harr⟩ := key n a w hI
  exact ⟨e, a', w', hq, .of_steps (.one step_loop) harr⟩
theorem J.loop {c : Code} {α : Type} (I : α → Pst) (μ : α → Nat) (x0 : α) (h0 : I x0 F L K) (round : ∀ x F L K, I x F L K → J X (.code c :: .back (fun F' L' K' => ∃ x', μ x' < μ x ∧ I x' F' L' K') :: s) F L K) : J X (.code (.loop c) :: s) F L K := by
  intro ι a w hF hS
  refine wp_loop_ix (fun n a w => ∃ (x : α) (ι1 : Nat → Nat) (F1 : Mem) (L1 : Slots) (K1 : Own), μ x = n ∧ Fr X.N ι1 L1 a ∧ St F1 ι1 K1 w ∧ (∀ t ∈ X.D, ι1 t = ι t) ∧ I x F1 L1 K1) ?_ (μ x0) a w ⟨x0, ι, F, L, K, rfl, hF, hS, fun _ _ => rfl, h0⟩
  rintro n a w ⟨x, ι1, F1, L1, K1, rfl, h1, h2, h3, h4⟩
  refine wp_mono (round x F1 L1 K1 h4 ι1 a w h1 h2) fun e a' w' hl => ?_
  obtain ⟨ι2, F2, L2, K2, g1, g2, g3, g4⟩ := hl
  have hagree : ∀ t ∈ X.D, ι2 t = ι t := fun t ht => (g3 t ht).trans (h3 t ht)
  cases e with
  | normal =>
    obtain ⟨x', hlt, hI⟩ := g4
    exact ⟨μ x', hlt, x', ι2, F2, L2, K2, rfl, g1, g2, hagree, hI⟩
  | _ => exact ⟨ι2, F2, L2, K2, g1, g2, hagree, g4⟩
/-- a loop, the slots and rows written out -/
theorem J.loopS {c : Code} {α : Type} (ok : α → Prop) (Lf : α → Slots) (Kf : α → Own) (μ : α → Nat) (x0 : α) (h0 : ok x0) (hL : LSub (Lf x0) L) (hK : KSub (Kf x0) K)
    (round : ∀ x, ok x → J X (.code c :: .back (fun F' L' K' => ∃ x', μ x' < μ x ∧ ok x' ∧ F' = F ∧ LSub (Lf x') L' ∧ KSub (Kf x') K') :: s) F (Lf x) (Kf x)) : J X (.code (.loop c) :: s) F L K :=
  J.loop (fun x F' L' K' => ok x ∧ F' = F ∧ LSub (Lf x) L' ∧ KSub (Kf x) K') μ x0 ⟨h0, rfl, hL, hK⟩ (by
    rintro x F' L' K' ⟨h1, rfl, h2, h3⟩
    exact WP.weak h2 h3 (round x h1))
theorem J.cutS {c : Code} {α : Type} (ok : α → Prop) (Lf : α → Slots) (Kf : α → Own) (h : J X (.code c :: .back (fun F' L' K' => ∃ x', ok x' ∧ F' = F ∧ LSub (Lf x') L' ∧ KSub (Kf x') K') :: s) F L K) {c' : Code} {s' : List SI} (hs : s = .code c' :: s')
    (hn : ∀ x, ok x → J X s F (Lf x) (Kf x)) : J X (.code c :: s) F L K :=
  J.cut _ h (by
    rintro F' L' K' ⟨x, h1, rfl, h2, h3⟩
    subst hs
    exact J.weak h2 h3 (hn x h1))
end
end Go.Proofs.Ytbeblgjibfoanaa.Am
