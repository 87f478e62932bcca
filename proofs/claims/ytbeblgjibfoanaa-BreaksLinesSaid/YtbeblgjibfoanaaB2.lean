/- Rules for walking Go functions with memory told by tags (B2). -/
import Derived.Test.YtbeblgjibfoanaaB1
namespace Go.Proofs.Ytbeblgjibfoanaa.Am
set_option linter.unusedSimpArgs false
set_option linter.unusedVariables false
open Go Go.RowKit
/-! append, in a walk: the result's row keeps the tag that its elder had. -/
theorem rowcK {F : Mem} {ι : Nat → Nat} {K : Own} {w : World} {t u b : Nat} {r : Row} (h : St F ι ((t, r) :: K) w) (hu : ntK u K = true) {x : Nat × Row} (hx : x ∈ K) : x.1 ≠ u ∧ x.2.c (upd ι u b) = x.2.c ι := by
  have := List.all_eq_true.1 hu x hx
  simp only [Bool.and_eq_true, Bool.or_eq_true, bne_iff_ne, ne_eq] at this
  refine ⟨this.1, ?_⟩
  rcases this.2 with hf | hf
  · exact Row.c_flat _ _ ((h.own x (List.mem_cons_of_mem _ hx)).2.2 hf)
  · exact Row.c_nt (fun v hv => upd_ne ι hv) hf
theorem LSub.cons {Lk L : Slots} {d : Nat} {v : Value} (h : LSub Lk L) (hd : (Lk.all fun x => x.1 != d) = true) : LSub ((d, v) :: Lk) ((d, v) :: L) := by
  refine ⟨by simp [List.lookup_cons], LSub.of_all fun x hx => ?_⟩
  have h1 := List.all_eq_true.1 hd x hx
  have h2 : (x.1 == d) = false := by simpa [bne] using h1
  rw [List.lookup_cons, h2]
  exact h.all_of x hx
theorem KSub.cons {Kk K : Own} {u : Nat} {r : Row} (h : KSub Kk K) (hd : (Kk.all fun x => x.1 != u) = true) : KSub ((u, r) :: Kk) ((u, r) :: K) := by
  refine ⟨by simp [List.lookup_cons], by simpa using hd, KSub.of_all h.tags fun x hx => ?_⟩
  have h1 := List.all_eq_true.1 hd x hx
  have h2 : (x.1 == u) = false := by simpa [bne] using h1
  rw [List.lookup_cons, h2]
  exact h.mem x hx
theorem lookup_del {K : Own} {a u : Nat} (h : a ≠ u) : (delK u K).lookup a = K.lookup a := by
  induction K with
  | nil => rfl
  | cons x K ih =>
    obtain ⟨b, r⟩ := x
    unfold delK at ih ⊢
    by_cases hb : b = u
    · subst hb
      have h2 : (a == b) = false := by simpa using h
      rw [List.filter_cons_of_neg (by simp), List.lookup_cons, h2]
      exact ih
    · rw [List.filter_cons_of_pos (by simpa using hb), List.lookup_cons, List.lookup_cons, ih]
theorem KSub.del {Kk K : Own} {u : Nat} (h : KSub Kk K) (hd : (Kk.all fun x => x.1 != u) = true) : KSub Kk (delK u K) := by
  refine KSub.of_all h.tags fun x hx => ?_
  have h1 := List.all_eq_true.1 hd x hx
  rw [lookup_del (by simpa using h1)]
  exact h.mem x hx
theorem ntK_ne {t : Nat} {K : Own} (h : ntK t K = true) : (K.all fun x => x.1 != t) = true := by
  rw [List.all_eq_true]
  intro x hx
  have := List.all_eq_true.1 h x hx
  simp only [Bool.and_eq_true] at this
  exact this.1
theorem St.retag {F : Mem} {ι : Nat → Nat} {K : Own} {w : World} {t u : Nat} {r : Row} (h : St F ι ((t, r) :: K) w) (hu : ntK u K = true) (hr : (r.flat || r.cs.all (nt1 u)) = true) : St F (upd ι u (ι t)) ((u, r) :: K) w := by
  have hmap : (K.map fun x => upd ι u (ι t) x.1) = K.map fun x => ι x.1 := List.map_congr_left fun x hx => upd_ne ι (rowcK h hu hx (b := 0)).1
  have hrow : r.c (upd ι u (ι t)) = r.c ι := by
    simp only [Bool.or_eq_true] at hr
    rcases hr with hf | hf
    · exact Row.c_flat _ _ ((h.own _ List.mem_cons_self).2.2 hf)
    · exact Row.c_nt (fun v hv => upd_ne ι hv) hf
  refine ⟨h.below, ?_, fun x hx => ?_, h.ext⟩
  · have := h.nodup
    simpa only [List.map_cons, hmap, upd_eq] using this
  · rcases List.mem_cons.1 hx with rfl | hx
    · have := h.own _ List.mem_cons_self
      simp only [upd_eq, hrow]
      exact this
    · obtain ⟨h1, h2⟩ := rowcK h hu hx (b := ι t)
      have := h.own x (List.mem_cons_of_mem _ hx)
      rw [upd_ne ι h1, h2]; exact this
section
variable {X : Cx} {F : Mem} {L : Slots} {K : Own} {s : List SI} {ops : Array Oper} {o : Oper} {l : List Oper}
theorem JL.retag {d t u n c : Nat} {r : Row} {Lk : Slots} {Kk : Own} (hL : ntL u Lk = true) (hK : ntK u Kk = true) (hr : (r.flat || r.cs.all (nt1 u)) = true) (hD : X.D.contains u = false)
    (h : JL X ops l s F ((d, .slice (some ⟨u, 0, some 0⟩) n c) :: Lk) ((u, r) :: Kk)) : JL X ops l s F ((d, .slice (some ⟨t, 0, some 0⟩) n c) :: Lk) ((t, r) :: Kk) := by
  intro ι a w hF hS
  have hagree : ∀ v ∈ X.D, upd ι u (ι t) v = ι v := fun v hv => upd_ne ι (fun e => by subst e; simp at hD; exact hD hv)
  refine JL.tr hagree (h (upd ι u (ι t)) a w ?_ (hS.retag hK hr))
  refine ⟨hF.size, hF.defers, fun s v hv => ?_⟩
  rw [List.lookup_cons] at hv
  split at hv
  · rename_i e
    have e1 : s = d := by simpa using e
    subst e1
    simp only [Option.some.injEq] at hv
    subst hv
    have := hF.slot s (.slice (some ⟨t, 0, some 0⟩) n c) (by simp [List.lookup_cons])
    simpa [upd_eq] using this
  · rename_i e
    have h1 := hF.slot s v (by rw [List.lookup_cons, e]; exact hv)
    rw [cV_nt (fun v hv => upd_ne ι hv) (List.all_eq_true.1 hL _ (lookup_mem hv))]
    exact h1
/-- a literal slice -/
theorem sl {Θ : Tab} {ty el : TypeId} {parts : Array (Nat × Operand)} {d n : Nat} {ti tj : Ty} {ps : List (Nat × List Value)} {cs : List Value} (hk : JL X ops l s F ((d, .slice (some ⟨d, 0, some 0⟩) n n) :: L) ((d, { elem := el, cs := cs, room := n * tj.size, flat := false }) :: K))
    (hg : o.guard = none := by rfl) (ho : o.op = .buildSlice ty n parts := by rfl) (hd : o.dst = some d := by rfl) (hN : d < X.N := by exact Nat.le_of_ble_eq_true rfl) (hθ : tabOk X.P Θ = true := by exact hT) (hi : Θ.lookup ty = some ti := by rfl) (hki : ti.k = .slice el := by rfl) (hj : Θ.lookup el = some tj := by rfl)
    (hp : partsL (evO L) parts.toList = some ps := by rfl) (h1 : ps.all (fun q => q.2.all (·.oneCell')) = true := by rfl) (hf : fillL (fun i => some (i * tj.size, tj.size)) (zer tj n) ps = some cs := by rfl) (hs : n * tj.size ≤ 16777216 := by exact Nat.le_of_ble_eq_true rfl) (hz0 : tj.zero.length = tj.size := by rfl) (hz1 : 0 < tj.size := by exact Nat.le_of_ble_eq_true rfl)
    (hL : ntL d L = true := by rfl) (hK : ntK d K = true := by rfl) (hD : X.D.contains d = false := by rfl) : JL X ops (o :: l) s F L K :=
  JL.step hg (Go1.slit hθ ho hd hN hi hki hj hp h1 hf hs hz0 hz1 hL hK hD hk)
/-- append to nothing -/
theorem apN {Θ : Tab} {ty ty' el : TypeId} {sx x : Operand} {d m : Nat} {ti ti' tj : Ty} {xv : Value} {news : List Value} (u : Nat) (fl : Bool) (Lk : Slots) (Kk : Own)
    (hk : ∀ cap, m ≤ cap → cap ≤ 9223372036854775807 → JL X ops l s F ((d, .slice (some ⟨u, 0, some 0⟩) m cap) :: Lk) ((u, { elem := el, cs := news, room := cap * tj.size, flat := fl }) :: Kk))
    (hg : o.guard = none := by rfl) (ho : o.op = .call ⟨.builtin .append, #[sx, x], #[ty, ty']⟩ := by rfl) (hd : o.dst = some d := by rfl) (hN : d < X.N := by exact Nat.le_of_ble_eq_true rfl) (hθ : tabOk X.P Θ = true := by exact hT)
    (hi : Θ.lookup ty = some ti := by rfl) (hki : ti.k = .slice el := by rfl) (hi' : Θ.lookup ty' = some ti' := by rfl) (hk' : slB ti'.k = true := by rfl) (hj : Θ.lookup el = some tj := by rfl) (hz0 : tj.zero.length = tj.size := by rfl) (hz1 : 0 < tj.size := by exact Nat.le_of_ble_eq_true rfl)
    (hs : evO L sx = some (.slice none 0 0) := by rfl) (hx : evO L x = some xv := by rfl) (happ : App X.P F K tj.size xv m news := by exact App.slice rfl (by simp [Value.oneCell']; done) rfl) (hLk : LSub Lk L := by repeat' first | exact trivial | refine And.intro rfl ?_) (hKk : KSub Kk K := by repeat' first | exact trivial | refine And.intro rfl ?_)
    (hm : 0 < m := by first | exact Nat.le_of_ble_eq_true rfl | omega) (h63 : m ≤ 9223372036854775807 := by first | exact Nat.le_of_ble_eq_true rfl | omega) (hby : m * tj.bytes ≤ 140737488355328 := by first | exact Nat.le_of_ble_eq_true rfl | (dsimp only; omega))
    (hflat : fl = true → news.all plain1 = true := by intro _; rfl) (hL : ntL u L = true := by rfl) (hK : ntK u K = true := by rfl) (hnn : news.all (nt1 u) = true := by rfl) (hD : X.D.contains u = false := by rfl) (hdk : (Lk.all fun x => x.1 != d) = true := by rfl) (hKu : ntK u Kk = true := by rfl) : JL X ops (o :: l) s F L K := by
  refine JL.step hg (Go1.append (t := u) (n := 0) (c := 0) (olds := []) (K0 := K) (fz := false) (fl := fl) hθ ho hd hN hi hki hi' hk' hj hz0 hz1 hs hx happ hm (.inl ⟨rfl, rfl, rfl, rfl, rfl⟩) (by simp) hflat (by omega) (by simpa using hby) hL hK hnn hD ?_)
  intro cap h1 h2
  simp only [Nat.zero_add, List.nil_append] at h1 ⊢
  exact JL.weak (hLk.cons hdk) (hKk.cons (ntK_ne hKu)) (hk cap h1 h2)
/-- append to one of the call's own rows, of the tag u; t is a tag that nothing has -/
theorem apO {Θ : Tab} {ty ty' el : TypeId} {sx x : Operand} {d m n c : Nat} {ti ti' tj : Ty} {xv : Value} {news : List Value} {r : Row} (t u : Nat) (Lk : Slots) (Kk : Own)
    (hk : ∀ cap, n + m ≤ cap → cap ≤ 9223372036854775807 → JL X ops l s F ((d, .slice (some ⟨u, 0, some 0⟩) (n + m) cap) :: Lk) ((u, { elem := el, cs := r.cs ++ news, room := cap * tj.size, fz := r.fz, flat := r.flat }) :: Kk))
    (hg : o.guard = none := by rfl) (ho : o.op = .call ⟨.builtin .append, #[sx, x], #[ty, ty']⟩ := by rfl) (hd : o.dst = some d := by rfl) (hN : d < X.N := by exact Nat.le_of_ble_eq_true rfl) (hθ : tabOk X.P Θ = true := by exact hT)
    (hi : Θ.lookup ty = some ti := by rfl) (hki : ti.k = .slice el := by rfl) (hi' : Θ.lookup ty' = some ti' := by rfl) (hk' : slB ti'.k = true := by rfl) (hj : Θ.lookup el = some tj := by rfl) (hz0 : tj.zero.length = tj.size := by rfl) (hz1 : 0 < tj.size := by exact Nat.le_of_ble_eq_true rfl)
    (hs : evO L sx = some (.slice (some ⟨u, 0, some 0⟩) n c) := by rfl) (hx : evO L x = some xv := by rfl) (hr : K.lookup u = some r := by rfl) (happ : App X.P F K tj.size xv m news := by exact App.slice rfl (by simp [Value.oneCell']; done) rfl) (hLk : LSub Lk L := by repeat' first | exact trivial | refine And.intro rfl ?_) (hKk : KSub Kk K := by repeat' first | exact trivial | refine And.intro rfl ?_)
    (hroom : r.room = c * tj.size := by rfl) (hel : r.elem = el := by rfl) (hol : r.cs.length = n * tj.size := by first | rfl | (dsimp only; omega) | (simp; done) | (simp; omega)) (hnc : n ≤ c := by omega) (hcm : c ≤ 9223372036854775807 := by omega)
    (hm : 0 < m := by first | exact Nat.le_of_ble_eq_true rfl | omega) (h63 : n + m ≤ 9223372036854775807 := by omega) (hby : (n + m) * tj.bytes ≤ 140737488355328 := by (dsimp only; omega))
    (hflat : r.flat = true → news.all plain1 = true := by intro _; rfl) (hL : ntL t L = true := by rfl) (hK : ntK t K = true := by rfl) (hnn : news.all (nt1 t) = true := by rfl) (hD : X.D.contains t = false := by rfl) (hDu : X.D.contains u = false := by rfl) (hdk : (Lk.all fun x => x.1 != d) = true := by rfl) (hKu : ntK u Kk = true := by rfl) (hKt : ntK t Kk = true := by rfl) (hLu : ntL u Lk = true := by rfl)
    (hru : (r.flat || (r.cs ++ news).all (nt1 u)) = true := by rfl) : JL X ops (o :: l) s F L K := by
  refine JL.step hg (Go1.append (t := t) (n := n) (c := c) (olds := r.cs) (K0 := delK u K) (fz := r.fz) (fl := r.flat) hθ ho hd hN hi hki hi' hk' hj hz0 hz1 hs hx happ hm (.inr ⟨u, r, rfl, hr, rfl, hroom, hel, hnc, hcm, rfl, id, id⟩) hol hflat h63 hby hL hK hnn hD ?_)
  intro cap h1 h2
  exact JL.weak (hLk.cons hdk) ((hKk.del (ntK_ne hKu)).cons (ntK_ne hKt)) (JL.retag hLu hKu hru hDu (hk cap h1 h2))
end
/-! Lists that are built by append: nothing yet, or a row of one's own. -/
def apV (t : Nat) (o : Option Nat) (n : Nat) : Value := match o with
  | none => .slice none 0 0
  | some c => .slice (some ⟨t, 0, some 0⟩) n c
def apR (t : Nat) (el : TypeId) (sz : Nat) (fl : Bool) (o : Option Nat) (cs : List Value) : Own := match o with
  | none => []
  | some c => [(t, { elem := el, cs := cs, room := c * sz, fz := false, flat := fl })]
/-- what is known of such a list's room -/
def apB (o : Option Nat) (n : Nat) : Prop := match o with
  | none => n = 0
  | some c => n ≤ c ∧ c ≤ 9223372036854775807
def ivs (xs : List Int) : List Value := xs.map (.int .i64 ·)
theorem ivs_length (xs : List Int) : (ivs xs).length = xs.length := by simp [ivs]
theorem ivs_append (xs ys : List Int) : ivs (xs ++ ys) = ivs xs ++ ivs ys := by simp [ivs]
theorem ivs_c (ι : Nat → Nat) (xs : List Int) : (ivs xs).map (c1 ι) = ivs xs := by
  unfold ivs
  rw [List.map_map]
  exact List.map_congr_left fun b _ => rfl
theorem ivs_r (ι : Nat → Nat) (xs : List Int) : (ivs xs).map (r1 ι) = ivs xs := by
  unfold ivs
  rw [List.map_map]
  exact List.map_congr_left fun b _ => rfl
theorem ivs_get {xs : List Int} {i : Nat} {x : Int} (h : xs[i]? = some x) : (ivs xs)[i]? = some (.int .i64 x) := by simp [ivs, h]
theorem ivs_snoc (xs : List Int) (x : Int) : ivs xs ++ [.int .i64 x] = ivs (xs ++ [x]) := by simp [ivs]
theorem Rd.ivs {G : Mem} {Y : List (Nat × Row)} (h : Rd G Y) {b c : Nat} {ι : Nat → Nat} {r : Row} {xs : List Int} (hm : (b, r.r ι) ∈ Y) (hcs : r.cs = Am.ivs xs) (hl : xs.length ≤ 9223372036854775807) : RInts G (.slice (some ⟨b, 0, none⟩) xs.length c) xs := by
  refine .inl ⟨b, 0, c, rfl, hl, fun i x hx => ?_⟩
  rw [Nat.zero_add]
  refine h _ hm i _ ?_
  simp only [Row.r, hcs, ivs_r]
  exact ivs_get hx
theorem zer_gIn {ti : Ty} {s : Nat} (h : ti.zero = List.replicate s (.int .i64 0)) (n : Nat) : zer ti n = gI (fun _ => 0) (n * s) := by
  unfold zer
  rw [h]
  apply List.ext_getElem?
  intro i
  by_cases hi : i < n * s
  · rw [gI_get hi, flat_get _ _ _ (by simpa using hi)]
    have h0 : 0 < s := by rcases Nat.eq_zero_or_pos s with h | h; · subst h; simp at hi
                          · exact h
    simp [List.getElem?_replicate, Nat.mod_lt _ h0]
  · rw [List.getElem?_eq_none (by simp; omega), List.getElem?_eq_none (by simp [gI_length]; omega)]
theorem tup2 {a a' b b' : Value} (h1 : a = a') (h2 : b = b') : Value.tuple #[a, b] = Value.tuple #[a', b'] := by rw [h1, h2]
theorem tup3 {a a' b b' c c' : Value} (h1 : a = a') (h2 : b = b') (h3 : c = c') : Value.tuple #[a, b, c] = Value.tuple #[a', b', c'] := by rw [h1, h2, h3]
theorem tup4 {a a' b b' c c' d d' : Value} (h1 : a = a') (h2 : b = b') (h3 : c = c') (h4 : d = d') : Value.tuple #[a, b, c, d] = Value.tuple #[a', b', c', d'] := by rw [h1, h2, h3, h4]
end Go.Proofs.Ytbeblgjibfoanaa.Am
