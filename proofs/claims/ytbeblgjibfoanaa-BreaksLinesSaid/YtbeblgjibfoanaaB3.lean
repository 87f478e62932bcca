/- Rules for walking Go functions with memory told by tags (B3). -/
import Derived.Test.YtbeblgjibfoanaaN1
namespace Go.Proofs.Ytbeblgjibfoanaa.Am
set_option linter.unusedSimpArgs false
set_option linter.unusedVariables false
open Go Go.RowKit
/-! Own rows that are handed to the world; loops that leave rows; append of nothing. -/
section
variable {X : Cx} {F : Mem} {L : Slots} {K : Own} {s : List SI} {ops : Array Oper} {o : Oper} {l : List Oper}
abbrev PlainRows (Y : List (Nat × Row)) : Prop := ∀ x ∈ Y, ∀ u ∈ x.2.cs, plain1 u = true
theorem St.release {ι : Nat → Nat} {w : World} {t : Nat} {r : Row} (h : St F ι ((t, r) :: K) w) (hp : ∀ v ∈ r.cs, plain1 v = true) : St (F.add [(ι t, r)]) ι K w := by
  have hrc : r.c ι = r.c fun _ => 0 := Row.c_flat _ _ hp
  have h0 := h.own _ List.mem_cons_self
  refine ⟨h.below, ?_, fun x hx => h.own x (List.mem_cons_of_mem _ hx), fun x hx => ?_⟩
  · have := h.nodup
    simp only [Mem.add, List.map_cons, List.cons_append, List.nil_append] at this ⊢
    exact (List.Perm.nodup_iff List.perm_middle).2 this
  · rcases List.mem_cons.1 hx with rfl | hx
    · refine ⟨h0.1, ?_⟩
      have := h0.2.1
      rw [hrc] at this
      exact this
    · exact h.ext x hx
theorem JL.release {d t n c off : Nat} {r : Row} (Lk : Slots) (Kk : Own)
    (h : ∀ b, PlainRows [(b, r)] → New F [(b, r)] → JL X ops l s (F.add [(b, r)]) ((d, .slice (some ⟨b, off, none⟩) n c) :: Lk) Kk)
    (hd : L.lookup d = some (.slice (some ⟨t, off, some 0⟩) n c) := by rfl) (hr : K.lookup t = some r := by rfl) (hfl : (r.flat || r.cs.all plain1) = true := by rfl) (hLk : LSub Lk L := by repeat' first | exact trivial | refine And.intro rfl ?_) (hKk : KSub Kk K := by repeat' first | exact trivial | refine And.intro rfl ?_)
    (hKt : (Kk.all fun x => x.1 != t) = true := by rfl) (hdk : (Lk.all fun x => x.1 != d) = true := by rfl) : JL X ops l s F L K := by
  intro ι a w hF hS
  have hp : ∀ v ∈ r.cs, plain1 v = true := by
    simp only [Bool.or_eq_true] at hfl
    rcases hfl with hfl | hfl
    · exact (hS.own _ (lookup_mem hr)).2.2 hfl
    · exact List.all_eq_true.1 hfl
  have hS1 : St F ι ((t, r) :: Kk) w := hS.weak ⟨hr, hKt, hKk⟩
  have hS2 := hS1.release hp
  have hpr : PlainRows [(ι t, r)] := fun x hx => by rw [List.mem_singleton.1 hx]; exact hp
  refine h (ι t) hpr (hS2.new_ hpr) ι a w ?_ hS2
  refine ⟨hF.size, hF.defers, fun s v hv => ?_⟩
  rw [List.lookup_cons] at hv
  split at hv
  · rename_i e
    have e1 : s = d := by simpa using e
    subst e1
    simp only [Option.some.injEq] at hv
    subst hv
    have := hF.slot s _ hd
    simpa using this
  · exact hF.slot s v (hLk.get s v hv)
theorem J.useNew {c : Code} {Y : List (Nat × Row)} (hp : PlainRows Y) (h : New F Y → J X (.code c :: s) (F.add Y) L K) : J X (.code c :: s) (F.add Y) L K := fun ι a w hF hS => h (hS.new_ hp) ι a w hF hS
theorem add_add (F : Mem) (Y Z : List (Nat × Row)) : (F.add Y).add Z = F.add (Z ++ Y) := by simp [Mem.add]
theorem Rd.app_left {G : Mem} {Y Z : List (Nat × Row)} (h : Rd G (Z ++ Y)) : Rd G Z := fun x hx => h x (List.mem_append_left _ hx)
theorem Rd.app_right {G : Mem} {Y Z : List (Nat × Row)} (h : Rd G (Z ++ Y)) : Rd G Y := fun x hx => h x (List.mem_append_right _ hx)
theorem PlainRows.app {Y Z : List (Nat × Row)} (hy : PlainRows Y) (hz : PlainRows Z) : PlainRows (Z ++ Y) := fun x hx => by
  rcases List.mem_append.1 hx with hx | hx
  · exact hz x hx
  · exact hy x hx
theorem PlainRows.nil : PlainRows [] := fun x hx => by cases hx
/-- a literal slice behind a guard -/
theorem slg {Θ : Tab} {ty el : TypeId} {parts : Array (Nat × Operand)} {d n j e : Nat} {want : Bool} {ti tj : Ty} {ps : List (Nat × List Value)} {cs : List Value} (hk : JL X ops l s F ((d, .slice (some ⟨d, 0, some 0⟩) n n) :: L) ((d, { elem := el, cs := cs, room := n * tj.size, flat := false }) :: K))
    (hg : o.guard = some (j, want) := by rfl) (hj' : (ops[j]?).bind (·.dst) = some e := by rfl) (hb : L.lookup e = some (.bool want) := by rfl) (ho : o.op = .buildSlice ty n parts := by rfl) (hd : o.dst = some d := by rfl) (hN : d < X.N := by exact Nat.le_of_ble_eq_true rfl) (hθ : tabOk X.P Θ = true := by exact hT) (hi : Θ.lookup ty = some ti := by rfl) (hki : ti.k = .slice el := by rfl) (hj : Θ.lookup el = some tj := by rfl)
    (hp : partsL (evO L) parts.toList = some ps := by rfl) (h1 : ps.all (fun q => q.2.all (·.oneCell')) = true := by rfl) (hf : fillL (fun i => some (i * tj.size, tj.size)) (zer tj n) ps = some cs := by rfl) (hs : n * tj.size ≤ 16777216 := by exact Nat.le_of_ble_eq_true rfl) (hz0 : tj.zero.length = tj.size := by rfl) (hz1 : 0 < tj.size := by exact Nat.le_of_ble_eq_true rfl)
    (hL : ntL d L = true := by rfl) (hK : ntK d K = true := by rfl) (hD : X.D.contains d = false := by rfl) : JL X ops (o :: l) s F L K :=
  JL.stepG hg hj' hb (Go1.slit hθ ho hd hN hi hki hj hp h1 hf hs hz0 hz1 hL hK hD hk)
/-- append of nothing to an own row -/
theorem ap0 {Θ : Tab} {ty ty' el : TypeId} {sx x : Operand} {d n c u : Nat} {ti ti' tj : Ty} {xv : Value} (hk : JL X ops l s F ((d, .slice (some ⟨u, 0, some 0⟩) n c) :: L) K)
    (hg : o.guard = none := by rfl) (ho : o.op = .call ⟨.builtin .append, #[sx, x], #[ty, ty']⟩ := by rfl) (hd : o.dst = some d := by rfl) (hN : d < X.N := by exact Nat.le_of_ble_eq_true rfl) (hθ : tabOk X.P Θ = true := by exact hT)
    (hi : Θ.lookup ty = some ti := by rfl) (hki : ti.k = .slice el := by rfl) (hi' : Θ.lookup ty' = some ti' := by rfl) (hk' : slB ti'.k = true := by rfl) (hj : Θ.lookup el = some tj := by rfl)
    (hs : evO L sx = some (.slice (some ⟨u, 0, some 0⟩) n c) := by rfl) (hx : evO L x = some xv := by rfl) (happ : App X.P F K tj.size xv 0 [] := by first | exact App.nil _ _ | exact App.slice rfl (by simp) (by simp)) (hnc : n ≤ c := by first | exact Nat.le_of_ble_eq_true rfl | omega) : JL X ops (o :: l) s F L K := by
  refine JL.step hg ?_
  intro ι a w hF hS
  have tye := tab_ty hθ hj
  obtain ⟨dd, hdd, hkd⟩ := (tab_ty hθ hi).und
  rw [hki] at hkd
  cases dd <;> try (simp [kindB] at hkd; done)
  simp only [kindB, beq_iff_eq] at hkd
  subst hkd
  rename_i el
  obtain ⟨d', hdd', hkd'⟩ := (tab_ty hθ hi').und
  have hd' : ∀ k, d' ≠ .int k := by
    intro k e
    subst e
    cases hq : ti'.k <;> rw [hq] at hk' hkd' <;> first | (simp [slB] at hk'; done) | simp [kindB] at hkd'
  have hlen := happ.lenOf ι w
  have hc0 := happ.cells ι w hS
  have hrun := run_append_in (ty := o.type) (a := ⟨ι u, 0, none⟩) (n := n) (c := c) (xv := cV ι xv) (w' := w) hdd hdd' hd' (tye.run_size w) hlen hc0 (by omega) (by simp [storeCells])
  refine ⟨ι, w, cV ι (.slice (some ⟨u, 0, some 0⟩) n c), F, _, K, .inl ?_, by rw [hd]; exact hF.put hN _, hS, fun _ _ => rfl, hk⟩
  obtain ⟨dst, op, type, pos, after, guard⟩ := o
  simp only at ho hrun
  subst ho
  have e1 := hF.ev hs
  have e2 := hF.ev hx
  simp only [cV_slice, cA_own] at e1
  simp only [execOp, resolve, Sem.run_bind, Sem.run_pure, Result.andThen_ok, invoke, builtin]
  simp only [List.map_toArray, List.map_cons, List.map_nil, e1, e2, hrun, Result.andThen_ok, Sem.run_pure, cV_slice, cA_own, Nat.add_zero]

theorem J.gloop1 {c : Code} {α : Type} (ok : List (Nat × Row) → α → Prop) (Lf : α → Slots) (kp : Slots) (Kf : α → Own) (kk : Own) (μ : α → Nat) (x0 : α) (hL : LSub (Lf x0) L) (hk : LSub kp L) (hK : KSub (Kf x0 ++ kk) K) (h0 : ok [] x0)
    (round : ∀ Y x L1 K1, L1 = Lf x ++ kp → K1 = Kf x ++ kk → ok Y x → PlainRows Y → New F Y → J X (.code c :: .back (fun F' L' K' => ∃ Y' x', μ x' < μ x ∧ ok Y' x' ∧ PlainRows Y' ∧ F' = F.add Y' ∧ LSub (Lf x') L' ∧ LSub kp L' ∧ KSub (Kf x' ++ kk) K') :: s) (F.add Y) L1 K1) : J X (.code (.loop c) :: s) F L K :=
  J.loop (α := List (Nat × Row) × α) (fun p F' L' K' => ok p.1 p.2 ∧ PlainRows p.1 ∧ F' = F.add p.1 ∧ LSub (Lf p.2 ++ kp) L' ∧ KSub (Kf p.2 ++ kk) K') (fun p => μ p.2) ([], x0) ⟨h0, PlainRows.nil, rfl, hL.app hk, hK⟩ (by
    rintro ⟨Y, x⟩ F' L' K' ⟨h1, hp, rfl, h2, h3⟩
    refine WP.weak h2 h3 ?_
    intro ι a w hF hS
    refine wp_mono (round Y x _ _ rfl rfl h1 hp (hS.new_ hp) ι a w hF hS) fun e a' w' hl => ?_
    obtain ⟨ι1, F1, L1, K1, g1, g2, g3, g4⟩ := hl
    refine ⟨ι1, F1, L1, K1, g1, g2, g3, ?_⟩
    cases e with
    | normal =>
      obtain ⟨Y', x', q1, q2, q7, q3, q4, q5, q6⟩ := g4
      exact ⟨⟨Y', x'⟩, q1, q2, q7, q3, q4.app q5, q6⟩
    | _ => exact g4)
theorem gbk1 {α : Type} {F0 : Mem} {ok : List (Nat × Row) → α → Prop} {Lf : α → Slots} {kp : Slots} {Kf : α → Own} {kk : Own} {μ : α → Nat} {m : Nat} (Y' : List (Nat × Row)) (x' : α) (hL : LSub (Lf x') L) (hk : LSub kp L) (hK : KSub (Kf x' ++ kk) K) (hFe : F = F0.add Y') (hp : PlainRows Y') (hμ : μ x' < m) (hok : ok Y' x') :
    J X (.back (fun F' L' K' => ∃ Y' x', μ x' < m ∧ ok Y' x' ∧ PlainRows Y' ∧ F' = F0.add Y' ∧ LSub (Lf x') L' ∧ LSub kp L' ∧ KSub (Kf x' ++ kk) K') :: s) F L K := ⟨Y', x', hμ, hok, hp, hFe, hL, hk, hK⟩
theorem J.gloop2 {c : Code} {α β : Type} (ok : List (Nat × Row) → α → β → Prop) (Lf : α → β → Slots) (kp : Slots) (Kf : α → β → Own) (kk : Own) (μ : α → β → Nat) (x0 : α) (y0 : β) (hL : LSub (Lf x0 y0) L) (hk : LSub kp L) (hK : KSub (Kf x0 y0 ++ kk) K) (h0 : ok [] x0 y0)
    (round : ∀ Y x y L1 K1, L1 = Lf x y ++ kp → K1 = Kf x y ++ kk → ok Y x y → PlainRows Y → New F Y → J X (.code c :: .back (fun F' L' K' => ∃ Y' x' y', μ x' y' < μ x y ∧ ok Y' x' y' ∧ PlainRows Y' ∧ F' = F.add Y' ∧ LSub (Lf x' y') L' ∧ LSub kp L' ∧ KSub (Kf x' y' ++ kk) K') :: s) (F.add Y) L1 K1) : J X (.code (.loop c) :: s) F L K :=
  J.loop (α := List (Nat × Row) × α × β) (fun p F' L' K' => ok p.1 p.2.1 p.2.2 ∧ PlainRows p.1 ∧ F' = F.add p.1 ∧ LSub (Lf p.2.1 p.2.2 ++ kp) L' ∧ KSub (Kf p.2.1 p.2.2 ++ kk) K') (fun p => μ p.2.1 p.2.2) ([], x0, y0) ⟨h0, PlainRows.nil, rfl, hL.app hk, hK⟩ (by
    rintro ⟨Y, x, y⟩ F' L' K' ⟨h1, hp, rfl, h2, h3⟩
    refine WP.weak h2 h3 ?_
    intro ι a w hF hS
    refine wp_mono (round Y x y _ _ rfl rfl h1 hp (hS.new_ hp) ι a w hF hS) fun e a' w' hl => ?_
    obtain ⟨ι1, F1, L1, K1, g1, g2, g3, g4⟩ := hl
    refine ⟨ι1, F1, L1, K1, g1, g2, g3, ?_⟩
    cases e with
    | normal =>
      obtain ⟨Y', x', y', q1, q2, q7, q3, q4, q5, q6⟩ := g4
      exact ⟨⟨Y', x', y'⟩, q1, q2, q7, q3, q4.app q5, q6⟩
    | _ => exact g4)
theorem gbk2 {α β : Type} {F0 : Mem} {ok : List (Nat × Row) → α → β → Prop} {Lf : α → β → Slots} {kp : Slots} {Kf : α → β → Own} {kk : Own} {μ : α → β → Nat} {m : Nat} (Y' : List (Nat × Row)) (x' : α) (y' : β) (hL : LSub (Lf x' y') L) (hk : LSub kp L) (hK : KSub (Kf x' y' ++ kk) K) (hFe : F = F0.add Y') (hp : PlainRows Y') (hμ : μ x' y' < m) (hok : ok Y' x' y') :
    J X (.back (fun F' L' K' => ∃ Y' x' y', μ x' y' < m ∧ ok Y' x' y' ∧ PlainRows Y' ∧ F' = F0.add Y' ∧ LSub (Lf x' y') L' ∧ LSub kp L' ∧ KSub (Kf x' y' ++ kk) K') :: s) F L K := ⟨Y', x', y', hμ, hok, hp, hFe, hL, hk, hK⟩
theorem J.gloop3 {c : Code} {α β γ : Type} (ok : List (Nat × Row) → α → β → γ → Prop) (Lf : α → β → γ → Slots) (kp : Slots) (Kf : α → β → γ → Own) (kk : Own) (μ : α → β → γ → Nat) (x0 : α) (y0 : β) (z0 : γ) (hL : LSub (Lf x0 y0 z0) L) (hk : LSub kp L) (hK : KSub (Kf x0 y0 z0 ++ kk) K) (h0 : ok [] x0 y0 z0)
    (round : ∀ Y x y z L1 K1, L1 = Lf x y z ++ kp → K1 = Kf x y z ++ kk → ok Y x y z → PlainRows Y → New F Y → J X (.code c :: .back (fun F' L' K' => ∃ Y' x' y' z', μ x' y' z' < μ x y z ∧ ok Y' x' y' z' ∧ PlainRows Y' ∧ F' = F.add Y' ∧ LSub (Lf x' y' z') L' ∧ LSub kp L' ∧ KSub (Kf x' y' z' ++ kk) K') :: s) (F.add Y) L1 K1) : J X (.code (.loop c) :: s) F L K :=
  J.loop (α := List (Nat × Row) × α × β × γ) (fun p F' L' K' => ok p.1 p.2.1 p.2.2.1 p.2.2.2 ∧ PlainRows p.1 ∧ F' = F.add p.1 ∧ LSub (Lf p.2.1 p.2.2.1 p.2.2.2 ++ kp) L' ∧ KSub (Kf p.2.1 p.2.2.1 p.2.2.2 ++ kk) K') (fun p => μ p.2.1 p.2.2.1 p.2.2.2) ([], x0, y0, z0) ⟨h0, PlainRows.nil, rfl, hL.app hk, hK⟩ (by
    rintro ⟨Y, x, y, z⟩ F' L' K' ⟨h1, hp, rfl, h2, h3⟩
    refine WP.weak h2 h3 ?_
    intro ι a w hF hS
    refine wp_mono (round Y x y z _ _ rfl rfl h1 hp (hS.new_ hp) ι a w hF hS) fun e a' w' hl => ?_
    obtain ⟨ι1, F1, L1, K1, g1, g2, g3, g4⟩ := hl
    refine ⟨ι1, F1, L1, K1, g1, g2, g3, ?_⟩
    cases e with
    | normal =>
      obtain ⟨Y', x', y', z', q1, q2, q7, q3, q4, q5, q6⟩ := g4
      exact ⟨⟨Y', x', y', z'⟩, q1, q2, q7, q3, q4.app q5, q6⟩
    | _ => exact g4)
theorem gbk3 {α β γ : Type} {F0 : Mem} {ok : List (Nat × Row) → α → β → γ → Prop} {Lf : α → β → γ → Slots} {kp : Slots} {Kf : α → β → γ → Own} {kk : Own} {μ : α → β → γ → Nat} {m : Nat} (Y' : List (Nat × Row)) (x' : α) (y' : β) (z' : γ) (hL : LSub (Lf x' y' z') L) (hk : LSub kp L) (hK : KSub (Kf x' y' z' ++ kk) K) (hFe : F = F0.add Y') (hp : PlainRows Y') (hμ : μ x' y' z' < m) (hok : ok Y' x' y' z') :
    J X (.back (fun F' L' K' => ∃ Y' x' y' z', μ x' y' z' < m ∧ ok Y' x' y' z' ∧ PlainRows Y' ∧ F' = F0.add Y' ∧ LSub (Lf x' y' z') L' ∧ LSub kp L' ∧ KSub (Kf x' y' z' ++ kk) K') :: s) F L K := ⟨Y', x', y', z', hμ, hok, hp, hFe, hL, hk, hK⟩
theorem J.gloop4 {c : Code} {α β γ δ : Type} (ok : List (Nat × Row) → α → β → γ → δ → Prop) (Lf : α → β → γ → δ → Slots) (kp : Slots) (Kf : α → β → γ → δ → Own) (kk : Own) (μ : α → β → γ → δ → Nat) (x0 : α) (y0 : β) (z0 : γ) (u0 : δ) (hL : LSub (Lf x0 y0 z0 u0) L) (hk : LSub kp L) (hK : KSub (Kf x0 y0 z0 u0 ++ kk) K) (h0 : ok [] x0 y0 z0 u0)
    (round : ∀ Y x y z u L1 K1, L1 = Lf x y z u ++ kp → K1 = Kf x y z u ++ kk → ok Y x y z u → PlainRows Y → New F Y → J X (.code c :: .back (fun F' L' K' => ∃ Y' x' y' z' u', μ x' y' z' u' < μ x y z u ∧ ok Y' x' y' z' u' ∧ PlainRows Y' ∧ F' = F.add Y' ∧ LSub (Lf x' y' z' u') L' ∧ LSub kp L' ∧ KSub (Kf x' y' z' u' ++ kk) K') :: s) (F.add Y) L1 K1) : J X (.code (.loop c) :: s) F L K :=
  J.loop (α := List (Nat × Row) × α × β × γ × δ) (fun p F' L' K' => ok p.1 p.2.1 p.2.2.1 p.2.2.2.1 p.2.2.2.2 ∧ PlainRows p.1 ∧ F' = F.add p.1 ∧ LSub (Lf p.2.1 p.2.2.1 p.2.2.2.1 p.2.2.2.2 ++ kp) L' ∧ KSub (Kf p.2.1 p.2.2.1 p.2.2.2.1 p.2.2.2.2 ++ kk) K') (fun p => μ p.2.1 p.2.2.1 p.2.2.2.1 p.2.2.2.2) ([], x0, y0, z0, u0) ⟨h0, PlainRows.nil, rfl, hL.app hk, hK⟩ (by
    rintro ⟨Y, x, y, z, u⟩ F' L' K' ⟨h1, hp, rfl, h2, h3⟩
    refine WP.weak h2 h3 ?_
    intro ι a w hF hS
    refine wp_mono (round Y x y z u _ _ rfl rfl h1 hp (hS.new_ hp) ι a w hF hS) fun e a' w' hl => ?_
    obtain ⟨ι1, F1, L1, K1, g1, g2, g3, g4⟩ := hl
    refine ⟨ι1, F1, L1, K1, g1, g2, g3, ?_⟩
    cases e with
    | normal =>
      obtain ⟨Y', x', y', z', u', q1, q2, q7, q3, q4, q5, q6⟩ := g4
      exact ⟨⟨Y', x', y', z', u'⟩, q1, q2, q7, q3, q4.app q5, q6⟩
    | _ => exact g4)
theorem gbk4 {α β γ δ : Type} {F0 : Mem} {ok : List (Nat × Row) → α → β → γ → δ → Prop} {Lf : α → β → γ → δ → Slots} {kp : Slots} {Kf : α → β → γ → δ → Own} {kk : Own} {μ : α → β → γ → δ → Nat} {m : Nat} (Y' : List (Nat × Row)) (x' : α) (y' : β) (z' : γ) (u' : δ) (hL : LSub (Lf x' y' z' u') L) (hk : LSub kp L) (hK : KSub (Kf x' y' z' u' ++ kk) K) (hFe : F = F0.add Y') (hp : PlainRows Y') (hμ : μ x' y' z' u' < m) (hok : ok Y' x' y' z' u') :
    J X (.back (fun F' L' K' => ∃ Y' x' y' z' u', μ x' y' z' u' < m ∧ ok Y' x' y' z' u' ∧ PlainRows Y' ∧ F' = F0.add Y' ∧ LSub (Lf x' y' z' u') L' ∧ LSub kp L' ∧ KSub (Kf x' y' z' u' ++ kk) K') :: s) F L K := ⟨Y', x', y', z', u', hμ, hok, hp, hFe, hL, hk, hK⟩
end
section
variable {F : Mem} {K : Own} {L : Slots}
theorem sdCutH {t el : TypeId} {x y : Operand} {b off n c : Nat} {sp : Option Nat} {k : IntKind} {h : Int} {ti tj : Ty} (ht : Θ.lookup t = some ti := by rfl) (hk : ti.k = .slice el := by rfl) (hj : Θ.lookup el = some tj := by rfl) (hx : evO L x = some (.slice (some ⟨b, off, sp⟩) n c) := by rfl) (hy : evO L y = some (.int k h) := by rfl) (h0 : 0 ≤ h := by omega) (h1 : h.toNat ≤ c := by omega) :
    SD Try.prog F K L (.slice t x none (some y) none) (.slice (some ⟨b, off, sp⟩) h.toNat c) := by
  have := SD.cutS (P := Try.prog) (F := F) (K := K) (L := L) hT ht hk hj hx (lo := none) (hi := some y) (l := 0) (h := h.toNat) rfl ⟨k, by rw [hy]; congr 2; omega⟩ (Nat.zero_le _) h1
  simpa [addA_zero] using this
end
section
variable {F : Mem} {L : Slots} {K : Own} {s : List SI}
/-- the end: all of the call's own rows are left, and those that were handed over -/
theorem outX.allY {Q : Value → List (Nat × Row) → Prop} {v : Value} {Y : List (Nat × Row)} (hp : PlainRows Y) (h : ∀ ι, Val ι K (F.add Y) → Q (rV ι v) ((K.map fun x => (ι x.1, x.2.r ι)) ++ Y)) : outX F Q v (F.add Y) K :=
  ⟨Y, rfl, hp, fun ι hv => ⟨(K.map fun x => (ι x.1, x.2.r ι)) ++ Y, fun x hx => hx, by
    have := hv.nodup
    simp only [Mem.add, List.map_append] at this
    rw [← List.append_assoc] at this
    have := (List.nodup_append.1 this).1
    simpa [List.map_map, Function.comp_def] using this, h ι hv⟩⟩
theorem rtY {Θ : Tab} {rs : List ResultVar} {Q : Value → List (Nat × Row) → Prop} {v : Value} {P : Program} {N : Nat} {D : List Nat} {Y : List (Nat × Row)} (hp : PlainRows Y) (h : ∀ ι, Val ι K (F.add Y) → Q (rV ι v) ((K.map fun x => (ι x.1, x.2.r ι)) ++ Y)) (hr : resV Θ (F.add Y) L K rs = some v := by rfl) : J ⟨P, N, D, retR Θ rs (outX F Q)⟩ (.code .ret :: s) (F.add Y) L K := J.ret ⟨v, hr, outX.allY hp h⟩
theorem reY {Θ : Tab} {rs : List ResultVar} {Q : Value → List (Nat × Row) → Prop} {v : Value} {P : Program} {N : Nat} {D : List Nat} {Y : List (Nat × Row)} (hp : PlainRows Y) (h : ∀ ι, Val ι K (F.add Y) → Q (rV ι v) ((K.map fun x => (ι x.1, x.2.r ι)) ++ Y)) (hr : resV Θ (F.add Y) L K rs = some v := by rfl) : J ⟨P, N, D, retR Θ rs (outX F Q)⟩ [] (F.add Y) L K := ⟨v, hr, outX.allY hp h⟩
end
/-! Rows of several cells an element. -/
theorem flat_at {xs : List (List Value)} {sz i j : Nat} (h : ∀ x ∈ xs, x.length = sz) (hj : j < sz) : xs.flatten[i * sz + j]? = (xs[i]?).bind (·[j]?) := by
  induction xs generalizing i with
  | nil => simp
  | cons x xs ih =>
    have hx := h x List.mem_cons_self
    rw [List.flatten_cons]
    cases i with
    | zero =>
      rw [Nat.zero_mul, Nat.zero_add, List.getElem?_append_left (by omega)]
      simp
    | succ i =>
      rw [List.getElem?_append_right (by rw [Nat.add_mul]; omega), show (i + 1) * sz + j - x.length = i * sz + j from by rw [Nat.add_mul]; omega, ih (fun y hy => h y (List.mem_cons_of_mem _ hy))]
      simp
theorem lookN_of {F : Mem} {a : Addr} : ∀ {cs : List Value}, (∀ j v, cs[j]? = some v → look F (addA a j) = some v) → lookN F a cs.length = some cs := by
  intro cs
  induction cs generalizing a with
  | nil => intro _; rfl
  | cons v cs ih =>
    intro h
    have h0 := h 0 v rfl
    rw [addA_zero] at h0
    have h1 := ih (a := addA a 1) (fun j u hj => by
      have := h (j + 1) u (by simpa using hj)
      rw [← this, addA_addA, Nat.add_comm 1 j])
    simp only [List.length_cons, lookN]
    rw [show look F a = some v from h0, h1]
theorem lookN_ints {F : Mem} {b off : Nat} {xs : List Int} (h : ∀ i x, xs[i]? = some x → look F ⟨b, off + i, none⟩ = some (.int .i64 x)) : lookN F ⟨b, off, none⟩ xs.length = some (ivs xs) := by
  have := lookN_of (F := F) (a := ⟨b, off, none⟩) (cs := ivs xs) (fun j v hv => by
    unfold ivs at hv
    rw [List.getElem?_map] at hv
    cases hx : xs[j]? with
    | none => simp [hx] at hv
    | some x =>
      simp only [hx, Option.map_some, Option.some.injEq] at hv
      subst hv
      exact h j x hx)
  rwa [ivs_length] at this

end Go.Proofs.Ytbeblgjibfoanaa.Am
