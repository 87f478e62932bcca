/- Rules for walking Go functions, and contracts proved by them (T4, N8, N9, N10, N12, N13, N14, T5, N15, N16, T7, T8, T6, T9, T12, T10). -/
import Derived.Test.YtnkddjdmpnghmaaZ3
import Derived.Below
import Derived.Laws.OwnMore
import Derived.KernelRfl
import Derived.Laws.Bits
import Derived.Laws.Strings
import Derived.Laws.Entries
import Derived.IntWalk
import Derived.Laws.Cells
import Derived.Laws.Append
import Derived.Laws.BytesString
import Derived.Laws.BytesArg
import Derived.Tactics
import Derived.Orders
import Derived.OrdersHeld
import Derived.Test.YtnkddjdmpnghmaaChecked
import Derived.Scope
import Derived.Laws.BitsLemmas
import Derived.Laws.Small
import Derived.Laws.Concat
import Derived.ChangeKeysEq
import Derived.ChangeArms
import Derived.DataReads
import Derived.WideShapes
import Derived.SizedLaws
import Derived.OpenShut
namespace Go.Proofs.Ytnkddjdmpnghmaa.Am
set_option linter.unusedSimpArgs false
set_option linter.unusedVariables false
set_option maxRecDepth 100000
set_option maxHeartbeats 4000000
open Go Go.RowKit
def lnRow (ty : TypeId) (lv : Value) (x : Item) (g gv : Value) (fr : Int) (ov : Bool) (al : Int) : Row := { elem := ty, cs := lv :: (x.cells g ++ [gv, .int .i64 fr, .bool ov, .int .i64 al]), room := 16, fz := false, flat := false }
theorem sharD_len {t : Int} {xs s : List Int} (h : sharD t xs = some s) : s.length = xs.length := by
  unfold sharD at h
  split at h
  · simp only [Option.some.injEq] at h
    rw [← h, shares_len]
  · cases h
theorem sharD_bd {t : Int} {xs s : List Int} (h : sharD t xs = some s) {j : Nat} (hj : j < xs.length) : -2199023255552 ≤ ints s j ∧ ints s j ≤ 2199023255552 := by
  unfold sharD at h
  split at h
  · simp only [Option.some.injEq] at h
    rw [← h]; exact shares_bd t xs hj
  · cases h
theorem tg0_pl (D : List Nat) {v : Value} (h : plain0 v = true) : tg0 D v = true := by
  cases v with
  | pointer a => cases a with
    | none => rfl
    | some a => obtain ⟨b, o, s⟩ := a; rcases s with _ | _ | s <;> first | rfl | cases h
  | slice a n c => cases a with
    | none => rfl
    | some a => obtain ⟨b, o, s⟩ := a; rcases s with _ | _ | s <;> first | rfl | cases h
  | _ => rfl
theorem tg1_pl (D : List Nat) {v : Value} (h : plain1 v = true) : tg1 D v = true := by
  cases v with
  | func fn x y =>
    simp only [plain1, Bool.and_eq_true] at h
    have aux : ∀ l : Array Value, l.all plain0 = true → l.toList.all (tg0 D) = true := fun l hl =>
      List.all_eq_true.2 fun u hu => tg0_pl D ((Array.all_eq_true'.1 hl) u (by simpa using hu))
    simp only [tg1, Bool.and_eq_true]
    exact ⟨aux _ h.1, aux _ h.2⟩
  | agg cs => simp [plain1] at h
  | tuple cs => simp [plain1] at h
  | pointer a => exact tg0_pl D (by simpa only [plain1] using h)
  | slice a n c => exact tg0_pl D (by simpa only [plain1] using h)
  | _ => rfl
theorem lnRow_tg (D : List Nat) {ty : TypeId} {lv : Value} {x : Item} {g gv : Value} {fr : Int} {ov : Bool} {al : Int} (h1 : plain1 lv = true) (h2 : plain1 g = true) (h3 : tg1 D gv = true) : (lnRow ty lv x g gv fr ov al).cs.all (tg1 D) = true := by
  simp only [lnRow, Item.cells, List.cons_append, List.nil_append, List.all_cons, List.all_nil, tg1_pl D h1, tg1_pl D h2, h3, Bool.and_true, Bool.true_and]
  rfl
theorem give_CA (F : Mem) (t sg : Int) (ws ys : List Int) (lv : Value) (x : Item) (g : Value) (fr : Int) (ov : Bool) (al : Int) (gc c4 r3 r4 : Nat) (ht : i64ok t) (hw : ∀ x ∈ ws, 0 ≤ x ∧ x ≤ 1073741824) (hl : ys.length = ws.length) (hn : ws.length ≤ 1024) (hsg : sg = 1 ∨ sg = -1) (plv : plain1 lv = true) (pg : plain1 g = true) :
    CA Try.prog [500001, 500002, 500003, 500004] [500001, 500002, 500003, 500004] 48 [.int .i64 t, .slice (some ⟨500004, 0, some 0⟩) ys.length c4, .int .i64 sg, .pointer (some ⟨500001, 0, some 0⟩)] F
      [(500001, { elem := 64, cs := [.pointer (some ⟨500002, 0, some 0⟩)], room := 1, fz := false, flat := false }), (500002, lnRow 72 lv x g (.slice (some ⟨500003, 0, some 0⟩) ws.length gc) fr ov al), (500003, { elem := 3, cs := ivs ws, room := r3, fz := false, flat := true }), (500004, { elem := 3, cs := ivs ys, room := r4, fz := false, flat := true })]
      (fun v _ K' => v = .tuple #[] ∧ K' = [(500001, { elem := 64, cs := [.pointer (some ⟨500002, 0, some 0⟩)], room := 1, fz := false, flat := false }), (500002, lnRow 72 lv x g (.slice (some ⟨500003, 0, some 0⟩) ws.length gc) fr ov al), (500003, { elem := 3, cs := ivs (giveD ws (sharD t ys) sg), room := r3, fz := false, flat := true }), (500004, { elem := 3, cs := ivs ys, room := r4, fz := false, flat := true })]) := by
  generalize ho : sharD t ys = o
  have htg : ∀ D : List Nat, D.contains 500003 = true → (lnRow 72 lv x g (.slice (some ⟨500003, 0, some 0⟩) ws.length gc) fr ov al).cs.all (tg1 D) = true := fun D h => lnRow_tg D plv pg h
  refine CA.go hT Try.func48 Try.ntmps48 ?_
  refine sq ?_
  refine rg ?_
  iterate 2 (refine st (h := O) ?_)
  refine clC (h := by exact fun ι hV hl => fShare_C _ t (some ⟨ι 500004, 0, none⟩) c4 ys ht (hV.intsX rfl rfl (by omega)) (by omega)) ?_
  intro u1 Y1 hQ1 hv1 hp1 hN1
  rw [ho] at hQ1
  rcases o with _ | s
  · obtain rfl : u1 = .tuple #[.slice none 0 0, .bool false] := hQ1
    iterate 5 (refine st (h := O) ?_)
    refine nl ?_
    refine sq ?_
    refine rg ?_
    refine st (h := O) ?_
    refine nl ?_
    refine cB (fun c0 => ?_) (fun c0 => ?_)
    ·try (exact absurd c0 (by decide))
     all_goals
       refine sq ?_
       refine rg ?_
       iterate 3 (refine st (h := O) ?_)
       refine nl ?_
       refine bl ?_
       refine J.loop2 (α := Nat) (β := List Value) (fun j E => j ≤ s.length ∧ E = ivs (addTo ws s sg j)) (fun j E => [(19, .int .i64 j)]) [(2, _), (3, _), (7, _), (18, _)] (fun j E => [(500003, { elem := 3, cs := E, room := r3, fz := false, flat := true })]) [(500001, _), (500002, _), (500004, _)] (fun j E => s.length - j) (0) (_) (by exact ⟨rfl, trivial⟩) (by exact ⟨rfl, rfl, rfl, rfl, trivial⟩) (by exact ⟨rfl, rfl, rfl, rfl, rfl, rfl, rfl, rfl, trivial⟩) ?_ ?_
       · exact ⟨Nat.zero_le _, by rw [addTo_0]⟩
       ·intro j E L1 K1 e1 e2 hI
        dsimp only [apV, apR, List.cons_append, List.nil_append] at e1 e2
        subst e1 e2
        obtain ⟨hj, hE⟩ := hI
        have hEl : E.length = ws.length := by rw [hE, ivs_length, addTo_len]
        refine sq ?_
        refine rg ?_
        refine st (h := O) ?_
        refine nl ?_
        refine sq ?_
        refine cD (fun c1 => ?_) (fun c1 => ?_)
        ·have hjs : j < s.length := by omega
         have hjw : j < ws.length := by omega
         have hd1 : E[0 + (j : Int).toNat * 1]? = some (.int .i64 (ints ws j)) := by
           rw [Nat.zero_add, Nat.mul_one, Int.toNat_natCast, hE]
           exact addTo_get _ _ _ hjw
         obtain ⟨sb, so, rfl, hrs⟩ := hA1.rd (by omega)
         have q1 : look (F.add Y1) ⟨sb, so + (j : Int).toNat * 1, none⟩ = some (.int .i64 (ints s j)) := by rw [Nat.mul_one]; exact hrs j _ (ints_get hjs)
         have b1 := hw _ (List.mem_of_getElem? (ints_get hjw))
         have b2 := sharD_bd ho (j := j) (by omega)
         have b3 : -2199023255552 ≤ sg * ints s j ∧ sg * ints s j ≤ 2199023255552 := by rcases hsg with rfl | rfl <;> omega
         refine sk ?_
         refine sq ?_
         refine bl ?_
         refine sq ?_
         refine rg ?_
         iterate 2 (refine st (h := O) ?_)
         refine nl ?_
         refine dr (tgk := by simp only [tgK, lnRow, Item.cells, List.cons_append, List.nil_append, List.all_cons, List.all_nil, tg1_pl _ plv, tg1_pl _ pg, Bool.true_and]; rfl) 15 [500003, 500001, 500002, 500004] [0, 1, 2, 3, 4, 5, 6, 7, 8, 9, 10, 11, 12, 13, 14, 1015] ?_
         refine dt (hv := by exact sdL) ?_
         refine dt (hv := by exact O) ?_
         refine dt (hv := by exact sdFA) ?_
         refine dt (hv := by exact sdL) ?_
         refine dt (hv := by exact O) ?_
         refine dt (hv := by exact (sdX (z := 1))) ?_
         refine dt (hv := by exact sdL (v := .int .i64 (ints ws j)) (hv := by exact hd1)) ?_
         iterate 3 (refine dt (hv := by exact O) ?_)
         refine dt (hv := by exact (sdX (z := 1))) ?_
         refine dt (hv := by exact (by first | exact sdLG | exact sdW)) ?_
         refine dt (hv := by exact sdM) ?_
         refine dt (hv := by exact sdA) ?_
         refine dt (hv := by exact (sdX (z := 1))) ?_
         refine dso (hle := by show 0 + (j : Int).toNat * 1 + 1 ≤ E.length; omega) (hkp := by first | exact Kept.all | exact Kept.k0 | exact Kept.kY) ?_
         refine dn ?_
         refine bk ?_
         refine rg ?_
         refine st (h := sdA) ?_
         refine st (h := O) ?_
         refine nl ?_
         refine bk2 (j + 1) (_) (by exact ⟨rfl, trivial⟩) (by exact ⟨rfl, rfl, rfl, rfl, trivial⟩) (by exact ⟨rfl, rfl, rfl, rfl, rfl, rfl, rfl, rfl, trivial⟩) ?_ ?_
         · omega
         · have e := addTo_put ws s sg hjw
           refine ⟨by omega, ?_⟩
           show putL E (0 + (j : Int).toNat * 1) [.int .i64 _] = _
           rw [Nat.zero_add, Nat.mul_one, Int.toNat_natCast, ← e, hE]
        ·obtain rfl : j = s.length := by omega
         have hE2 : E = ivs (giveD ws (some s) sg) := by rw [hE, hsl, hl]; rfl
         refine ex ?_
         try subst hE2
         first
           | exact absurd c0 (by decide)
           | exact reAY _ hp1 ⟨rfl, rfl⟩ (h1 := by simp only [tgK, lnRow, Item.cells, List.cons_append, List.nil_append, List.all_cons, List.all_nil, tg1_pl _ plv, tg1_pl _ pg, Bool.true_and]; rfl)
    ·refine sk ?_
     try subst hE2
     first
       | exact absurd c0 (by decide)
       | exact reAY _ hp1 ⟨rfl, rfl⟩ (h1 := by simp only [tgK, lnRow, Item.cells, List.cons_append, List.nil_append, List.all_cons, List.all_nil, tg1_pl _ plv, tg1_pl _ pg, Bool.true_and]; rfl)
  · obtain ⟨sa, sc, rfl, hR1⟩ := hQ1
    have hA1 := hR1 _ hN1.rows
    have hsl := sharD_len ho
    iterate 5 (refine st (h := O) ?_)
    refine nl ?_
    refine sq ?_
    refine rg ?_
    refine st (h := O) ?_
    refine nl ?_
    refine cB (fun c0 => ?_) (fun c0 => ?_)
    ·try (exact absurd c0 (by decide))
     all_goals
       refine sq ?_
       refine rg ?_
       iterate 3 (refine st (h := O) ?_)
       refine nl ?_
       refine bl ?_
       refine J.loop2 (α := Nat) (β := List Value) (fun j E => j ≤ s.length ∧ E = ivs (addTo ws s sg j)) (fun j E => [(19, .int .i64 j)]) [(2, _), (3, _), (7, _), (18, _)] (fun j E => [(500003, { elem := 3, cs := E, room := r3, fz := false, flat := true })]) [(500001, _), (500002, _), (500004, _)] (fun j E => s.length - j) (0) (_) (by exact ⟨rfl, trivial⟩) (by exact ⟨rfl, rfl, rfl, rfl, trivial⟩) (by exact ⟨rfl, rfl, rfl, rfl, rfl, rfl, rfl, rfl, trivial⟩) ?_ ?_
       · exact ⟨Nat.zero_le _, by rw [addTo_0]⟩
       ·intro j E L1 K1 e1 e2 hI
        dsimp only [apV, apR, List.cons_append, List.nil_append] at e1 e2
        subst e1 e2
        obtain ⟨hj, hE⟩ := hI
        have hEl : E.length = ws.length := by rw [hE, ivs_length, addTo_len]
        refine sq ?_
        refine rg ?_
        refine st (h := O) ?_
        refine nl ?_
        refine sq ?_
        refine cD (fun c1 => ?_) (fun c1 => ?_)
        ·have hjs : j < s.length := by omega
         have hjw : j < ws.length := by omega
         have hd1 : E[0 + (j : Int).toNat * 1]? = some (.int .i64 (ints ws j)) := by
           rw [Nat.zero_add, Nat.mul_one, Int.toNat_natCast, hE]
           exact addTo_get _ _ _ hjw
         obtain ⟨sb, so, rfl, hrs⟩ := hA1.rd (by omega)
         have q1 : look (F.add Y1) ⟨sb, so + (j : Int).toNat * 1, none⟩ = some (.int .i64 (ints s j)) := by rw [Nat.mul_one]; exact hrs j _ (ints_get hjs)
         have b1 := hw _ (List.mem_of_getElem? (ints_get hjw))
         have b2 := sharD_bd ho (j := j) (by omega)
         have b3 : -2199023255552 ≤ sg * ints s j ∧ sg * ints s j ≤ 2199023255552 := by rcases hsg with rfl | rfl <;> omega
         refine sk ?_
         refine sq ?_
         refine bl ?_
         refine sq ?_
         refine rg ?_
         iterate 2 (refine st (h := O) ?_)
         refine nl ?_
         refine dr (tgk := by simp only [tgK, lnRow, Item.cells, List.cons_append, List.nil_append, List.all_cons, List.all_nil, tg1_pl _ plv, tg1_pl _ pg, Bool.true_and]; rfl) 15 [500003, 500001, 500002, 500004] [0, 1, 2, 3, 4, 5, 6, 7, 8, 9, 10, 11, 12, 13, 14, 1015] ?_
         refine dt (hv := by exact sdL) ?_
         refine dt (hv := by exact O) ?_
         refine dt (hv := by exact sdFA) ?_
         refine dt (hv := by exact sdL) ?_
         refine dt (hv := by exact O) ?_
         refine dt (hv := by exact (sdX (z := 1))) ?_
         refine dt (hv := by exact sdL (v := .int .i64 (ints ws j)) (hv := by exact hd1)) ?_
         iterate 3 (refine dt (hv := by exact O) ?_)
         refine dt (hv := by exact (sdX (z := 1))) ?_
         refine dt (hv := by exact (by first | exact sdLG | exact sdW)) ?_
         refine dt (hv := by exact sdM) ?_
         refine dt (hv := by exact sdA) ?_
         refine dt (hv := by exact (sdX (z := 1))) ?_
         refine dso (hle := by show 0 + (j : Int).toNat * 1 + 1 ≤ E.length; omega) (hkp := by first | exact Kept.all | exact Kept.k0 | exact Kept.kY) ?_
         refine dn ?_
         refine bk ?_
         refine rg ?_
         refine st (h := sdA) ?_
         refine st (h := O) ?_
         refine nl ?_
         refine bk2 (j + 1) (_) (by exact ⟨rfl, trivial⟩) (by exact ⟨rfl, rfl, rfl, rfl, trivial⟩) (by exact ⟨rfl, rfl, rfl, rfl, rfl, rfl, rfl, rfl, trivial⟩) ?_ ?_
         · omega
         · have e := addTo_put ws s sg hjw
           refine ⟨by omega, ?_⟩
           show putL E (0 + (j : Int).toNat * 1) [.int .i64 _] = _
           rw [Nat.zero_add, Nat.mul_one, Int.toNat_natCast, ← e, hE]
        ·obtain rfl : j = s.length := by omega
         have hE2 : E = ivs (giveD ws (some s) sg) := by rw [hE, hsl, hl]; rfl
         refine ex ?_
         try subst hE2
         first
           | exact absurd c0 (by decide)
           | exact reAY _ hp1 ⟨rfl, rfl⟩ (h1 := by simp only [tgK, lnRow, Item.cells, List.cons_append, List.nil_append, List.all_cons, List.all_nil, tg1_pl _ plv, tg1_pl _ pg, Bool.true_and]; rfl)
    ·refine sk ?_
     try subst hE2
     first
       | exact absurd c0 (by decide)
       | exact reAY _ hp1 ⟨rfl, rfl⟩ (h1 := by simp only [tgK, lnRow, Item.cells, List.cons_append, List.nil_append, List.all_cons, List.all_nil, tg1_pl _ plv, tg1_pl _ pg, Bool.true_and]; rfl)
end Go.Proofs.Ytnkddjdmpnghmaa.Am
namespace Go.Proofs.Ytnkddjdmpnghmaa.Am
set_option linter.unusedSimpArgs false
set_option linter.unusedVariables false
open Go Go.RowKit
end Go.Proofs.Ytnkddjdmpnghmaa.Am
namespace Go.Proofs.Ytnkddjdmpnghmaa.Am
set_option linter.unusedSimpArgs false
set_option linter.unusedVariables false
open Go Go.RowKit
section
variable {P : Program}
end
section
variable {F : Mem} {K : Own} {L : Slots}
end
end Go.Proofs.Ytnkddjdmpnghmaa.Am
namespace Go.Proofs.Ytnkddjdmpnghmaa.Am
set_option linter.unusedSimpArgs false
set_option linter.unusedVariables false
open Go Go.RowKit
section
variable {X : Cx} {F : Mem} {L : Slots} {K : Own} {s : List SI} {ops : Array Oper} {o : Oper} {l : List Oper}
theorem apA {Θ : Tab} {ty ty' el : TypeId} {sx x : Operand} {d n c : Nat} {ti ti' tj : Ty} {xv : Value} {m : Nat} {olds news : List Value} {r : Row} (sz t u : Nat) (Lk : Slots) (Kk : Own) (happ0 : App X.P F K sz xv m news) (hpo : ∀ v ∈ olds, plain1 v = true) (hpn : ∀ v ∈ news, plain1 v = true)
    (hk : ∀ cap, n + m ≤ cap → cap ≤ 9223372036854775807 → JL X ops l s F ((d, .slice (some ⟨u, 0, some 0⟩) (n + m) cap) :: Lk) ((u, { elem := el, cs := olds ++ news, room := cap * sz, fz := r.fz, flat := true }) :: Kk))
    (hg : o.guard = none := by rfl) (ho : o.op = .call ⟨.builtin .append, #[sx, x], #[ty, ty']⟩ := by rfl) (hd : o.dst = some d := by rfl) (hN : d < X.N := by exact Nat.le_of_ble_eq_true rfl) (hθ : tabOk X.P Θ = true := by exact hT)
    (hi : Θ.lookup ty = some ti := by rfl) (hki : ti.k = .slice el := by rfl) (hi' : Θ.lookup ty' = some ti' := by rfl) (hk' : slB ti'.k = true := by rfl) (hj : Θ.lookup el = some tj := by rfl) (hz0 : tj.zero.length = tj.size := by rfl) (hsz : tj.size = sz := by rfl) (hz1 : 0 < tj.size := by exact Nat.le_of_ble_eq_true rfl)
    (hs : evO L sx = some (.slice (some ⟨u, 0, some 0⟩) n c) := by rfl) (hx : evO L x = some xv := by rfl) (hr : K.lookup u = some r := by rfl) (hcs : r.cs = olds := by rfl) (hLk : LSub Lk L := by repeat' first | exact trivial | refine And.intro rfl ?_) (hKk : KSub Kk K := by repeat' first | exact trivial | refine And.intro rfl ?_)
    (hn : olds.length = n * sz := by first | rfl | omega) (hroom : r.room = c * sz := by rfl) (hel : r.elem = el := by rfl) (hnc : n ≤ c := by first | exact Nat.le_of_ble_eq_true rfl | omega) (hcm : c ≤ 9223372036854775807 := by first | exact Nat.le_of_ble_eq_true rfl | omega)
    (h63 : n + m ≤ 9223372036854775807 := by omega) (hby : (n + m) * tj.bytes ≤ 140737488355328 := by (dsimp only; omega))
    (hL : ntL t L = true := by rfl) (hK : ntK t K = true := by rfl) (hD : X.D.contains t = false := by rfl) (hDu : X.D.contains u = false := by rfl) (hdk : (Lk.all fun x => x.1 != d) = true := by rfl) (hKu : ntK u Kk = true := by rfl) (hKt : ntK t Kk = true := by rfl) (hLu : ntL u Lk = true := by rfl) : JL X ops (o :: l) s F L K := by
  rcases Nat.eq_zero_or_pos m with hz | hz
  · subst hz
    have hnw : news = [] := List.eq_nil_of_length_eq_zero (by rw [happ0.len, Nat.zero_mul])
    subst hnw
    have happ : App X.P F K tj.size xv 0 [] := by rw [hsz]; exact happ0
    refine ap0 ?_ hg ho hd hN hθ hi hki hi' hk' hj hs hx happ hnc
    have h1 := hk c (by simpa using hnc) hcm
    rw [List.append_nil, Nat.add_zero] at h1
    have h2 : JL X ops l s F ((d, .slice (some ⟨u, 0, some 0⟩) n c) :: Lk) ((u, { r with cs := olds }) :: Kk) := by
      refine JL.flat hpo ?_
      rw [← hel] at h1
      have e : r.room = c * sz := hroom
      rw [← e] at h1
      exact h1
    refine JL.weak (hLk.cons hdk) ?_ h2
    refine KSub.of_all ?_ ?_
    · have := hKk.tags
      simp only [List.map_cons, List.nodup_cons]
      refine ⟨fun hm => ?_, this⟩
      obtain ⟨y, hy, e⟩ := List.mem_map.1 hm
      have h2 := List.all_eq_true.1 hKu y hy
      simp only [Bool.and_eq_true, bne_iff_ne, ne_eq] at h2
      exact h2.1 e
    · intro y hy
      rcases List.mem_cons.1 hy with rfl | hy
      · rw [hr, ← hcs]
      · exact hKk.mem y hy
  · have happ : App X.P F K tj.size xv m news := by rw [hsz]; exact happ0
    have hall : news.all plain1 = true := List.all_eq_true.2 hpn
    have hnn : ∀ t, news.all (nt1 t) = true := fun t => List.all_eq_true.2 fun v hv => nt1_plain t (hpn v hv)
    have hon : ∀ t, olds.all (nt1 t) = true := fun t => List.all_eq_true.2 fun v hv => nt1_plain t (hpo v hv)
    refine apO (m := m) (news := news) t u Lk Kk ?_ hg ho hd hN hθ hi hki hi' hk' hj hz0 hz1 hs hx hr happ hLk hKk (by rw [hsz]; exact hroom) hel (by rw [hcs, hn, hsz]) hnc hcm hz h63 hby (fun _ => hall) hL hK (hnn t) hD hDu hdk hKu hKt hLu (by rw [hcs, List.all_append, hon, hnn]; simp)
    intro cap hc1 hc2
    rw [hcs, hsz]
    exact JL.flat (fun v hv => (List.mem_append.1 hv).elim (hpo v) (hpn v)) (hk cap hc1 hc2)
theorem apA0 {Θ : Tab} {ty ty' el : TypeId} {sx x : Operand} {d c : Nat} {ti ti' tj : Ty} {xv : Value} {m : Nat} {news : List Value} {r : Row} (sz t u : Nat) (Lk : Slots) (Kk : Own) (happ0 : App X.P F K sz xv m news) (hpn : ∀ v ∈ news, plain1 v = true)
    (hk : ∀ cap, m ≤ cap → cap ≤ 9223372036854775807 → JL X ops l s F ((d, .slice (some ⟨u, 0, some 0⟩) (m) cap) :: Lk) ((u, { elem := el, cs := news, room := cap * sz, fz := r.fz, flat := true }) :: Kk))
    (hg : o.guard = none := by rfl) (ho : o.op = .call ⟨.builtin .append, #[sx, x], #[ty, ty']⟩ := by rfl) (hd : o.dst = some d := by rfl) (hN : d < X.N := by exact Nat.le_of_ble_eq_true rfl) (hθ : tabOk X.P Θ = true := by exact hT)
    (hi : Θ.lookup ty = some ti := by rfl) (hki : ti.k = .slice el := by rfl) (hi' : Θ.lookup ty' = some ti' := by rfl) (hk' : slB ti'.k = true := by rfl) (hj : Θ.lookup el = some tj := by rfl) (hz0 : tj.zero.length = tj.size := by rfl) (hsz : tj.size = sz := by rfl) (hz1 : 0 < tj.size := by exact Nat.le_of_ble_eq_true rfl)
    (hs : evO L sx = some (.slice (some ⟨u, 0, some 0⟩) 0 c) := by rfl) (hx : evO L x = some xv := by rfl) (hr : K.lookup u = some r := by rfl) (hcs : r.cs = [] := by rfl) (hLk : LSub Lk L := by repeat' first | exact trivial | refine And.intro rfl ?_) (hKk : KSub Kk K := by repeat' first | exact trivial | refine And.intro rfl ?_)
    (hroom : r.room = c * sz := by rfl) (hel : r.elem = el := by rfl) (hcm : c ≤ 9223372036854775807 := by first | exact Nat.le_of_ble_eq_true rfl | omega)
    (h63 : m ≤ 9223372036854775807 := by omega) (hby : m * tj.bytes ≤ 140737488355328 := by (dsimp only; omega))
    (hL : ntL t L = true := by rfl) (hK : ntK t K = true := by rfl) (hD : X.D.contains t = false := by rfl) (hDu : X.D.contains u = false := by rfl) (hdk : (Lk.all fun x => x.1 != d) = true := by rfl) (hKu : ntK u Kk = true := by rfl) (hKt : ntK t Kk = true := by rfl) (hLu : ntL u Lk = true := by rfl) : JL X ops (o :: l) s F L K := by
  refine apA (n := 0) (olds := []) sz t u Lk Kk happ0 (fun v hv => by cases hv) hpn (fun cap h1 h2 => ?_) hg ho hd hN hθ hi hki hi' hk' hj hz0 hsz hz1 hs hx hr hcs hLk hKk (by simp) hroom hel (Nat.zero_le _) hcm (by omega) (by rw [Nat.zero_add]; exact hby) hL hK hD hDu hdk hKu hKt hLu
  have := hk cap (by omega) h2
  rw [Nat.zero_add, List.nil_append]
  exact this
end
end Go.Proofs.Ytnkddjdmpnghmaa.Am
namespace Go.Proofs.Ytnkddjdmpnghmaa.Am
set_option linter.unusedSimpArgs false
set_option linter.unusedVariables false
open Go Go.RowKit
/-- a row that a callee left becomes the call's own -/
theorem JL.adoptV {X : Cx} {F : Mem} {L : Slots} {K : Own} {s : List SI} {ops : Array Oper} {l : List Oper} {d t g : Nat} {r : Row} {Y : List (Nat × Row)} {v v' : Value} (hd : L.lookup d = some v) (hv : ∀ ι : Nat → Nat, ι t = g → cV ι v' = cV ι v) (hr : ∀ u ∈ r.cs, plain1 u = true) (hL : ntL t L = true) (hK : ntK t K = true) (hD : X.D.contains t = false)
    (h : JL X ops l s (F.add Y) ((d, v') :: L) ((t, { r with flat := true }) :: K)) : JL X ops l s (F.add ((g, r) :: Y)) L K := by
  intro ι a w hF hS
  have hx := hS.ext (g, r) (by simp [Mem.add])
  have hnd := hS.nodup
  simp only [Mem.add, List.cons_append, List.map_cons] at hnd
  have hagree : ∀ u ∈ X.D, upd ι t g u = ι u := fun u hu => upd_ne ι (fun e => by subst e; simp at hD; exact hD hu)
  have hmap : (K.map fun x => upd ι t g x.1) = K.map fun x => ι x.1 := List.map_congr_left fun x hx => upd_ne ι (hS.rowc (b := 0) hK hx).1
  refine JL.tr hagree (h (upd ι t g) a w ?_ ⟨hS.below, ?_, fun x hx2 => ?_, fun x hx2 => hS.ext x (by simp only [Mem.add] at hx2 ⊢; exact List.mem_cons_of_mem _ hx2)⟩)
  · have h1 := hF.nt (fun u hu => upd_ne ι (t := t) (b := g) hu) hL
    refine ⟨h1.size, h1.defers, fun s u hu => ?_⟩
    rw [List.lookup_cons] at hu
    split at hu
    · rename_i e
      have e1 : s = d := by simpa using e
      subst e1
      simp only [Option.some.injEq] at hu
      subst hu
      rw [hv _ (upd_eq ..)]
      exact h1.slot s _ hd
    · exact h1.slot s u hu
  · simp only [List.map_cons, List.cons_append, hmap, upd_eq, Mem.add, List.map_append] at hnd ⊢
    refine (List.Perm.nodup_iff ?_).1 hnd
    exact List.perm_middle
  · rcases List.mem_cons.1 hx2 with rfl | hx2
    · simp only [upd_eq]
      have e : ({ r with flat := true } : Row).c (upd ι t g) = { r.c (fun _ => 0) with flat := true } := by
        unfold Row.c
        have : r.cs.map (c1 (upd ι t g)) = r.cs.map (c1 fun _ => 0) := List.map_congr_left fun u hu => c1_plain _ _ (hr u hu)
        simp [this]
      refine ⟨hx.1, ?_, fun _ => hr⟩
      rw [e]
      exact hx.2
    · obtain ⟨h1, h2⟩ := hS.rowc (b := g) hK hx2
      obtain ⟨h3, h4, h5⟩ := hS.own x hx2
      rw [upd_ne ι h1, h2]
      exact ⟨h3, h4, h5⟩
section
variable {X : Cx} {F : Mem} {L : Slots} {K : Own} {s : List SI} {ops : Array Oper} {o : Oper} {l : List Oper}
end
section
variable {X : Cx} {F F0 : Mem} {L : Slots} {K K0 : Own} {s : List SI} {ops : Array Oper} {l : List Oper} {b : Nat} {D : List Nat} {p : List (Nat × Bool)} {listed : Array Bool}
/-- a literal slice -/
theorem jsl {i : Nat} {o : Oper} {Θ : Tab} {ty el : TypeId} {parts : Array (Nat × Operand)} {d n : Nat} {ti tj : Ty} {ps : List (Nat × List Value)} {cs : List Value} (hk : JD X l b F0 K0 D p (listed.setIfInBounds i true) s F ((d, .slice (some ⟨d, 0, some 0⟩) n n) :: L) ((d, { elem := el, cs := cs, room := n * tj.size, flat := false }) :: K))
    (hp0 : planOk l b (listed.setIfInBounds i true) p = true := by kernel_rfl) (ho' : l[i]? = some o := by rfl) (hg : o.guard = none := by rfl) (ho : o.op = .buildSlice ty n parts := by rfl) (hd : o.dst = some d := by rfl) (hN : d < X.N := by exact Nat.le_of_ble_eq_true rfl) (hθ : tabOk X.P Θ = true := by exact hT) (hi : Θ.lookup ty = some ti := by rfl) (hki : ti.k = .slice el := by rfl) (hj : Θ.lookup el = some tj := by rfl)
    (hp : partsL (evO L) parts.toList = some ps := by rfl) (h1 : ps.all (fun q => q.2.all (·.oneCell')) = true := by rfl) (hf : fillL (fun i => some (i * tj.size, tj.size)) (zer tj n) ps = some cs := by rfl) (hs : n * tj.size ≤ 16777216 := by exact Nat.le_of_ble_eq_true rfl) (hz0 : tj.zero.length = tj.size := by rfl) (hz1 : 0 < tj.size := by exact Nat.le_of_ble_eq_true rfl)
    (hL : ntL d L = true := by rfl) (hK : ntK d K = true := by rfl) (hD : D.contains d = false := by rfl)
    (hkp : Kept b F0 K0 (listed.setIfInBounds i true) F ((d, { elem := el, cs := cs, room := n * tj.size, flat := false }) :: K) := by first | exact Kept.all | exact Kept.k0 | exact Kept.kY | exact Kept.kYY | exact Kept.kY3) : JS X l b F0 K0 D p listed s i F L K :=
  JS.op ho' hg hp0 (Go1.slit hθ ho hd hN hi hki hj hp h1 hf hs hz0 hz1 hL hK hD ⟨hkp, hk⟩)
end
end Go.Proofs.Ytnkddjdmpnghmaa.Am
namespace Go.Proofs.Ytnkddjdmpnghmaa.Am
set_option linter.unusedSimpArgs false
set_option linter.unusedVariables false
open Go Go.RowKit
theorem J.drawK {X : Cx} {F : Mem} {L : Slots} {K K0 : Own} {s : List SI} {l : List Oper} {id : Nat} (b : Nat) (D : List Nat) (p : List (Nat × Bool)) (hK : KSub K0 K) (hm : X.P.follows .mixedOrders = true) (hlen : pl p = l.length) (hp : planOk l b (Array.replicate l.length false) p = true) (hok : JDok X l K0 D)
    (h : JD X l b F K0 D p (Array.replicate l.length false) s F L K) : J X (.code (.region id l.toArray true) :: s) F L K := by
  intro ι a w hF hS
  refine wp_region_any hm (wpAny_of_B (b := b) (S := fun w => St F ι K0 w) _ _ _ _ ?_)
  have hS' : St F ι K { w with drawn := w.drawn + 1 } := hS.same rfl rfl rfl rfl
  have := h hp hok ι ι a _ hF hS' (fun _ _ => rfl) (fun _ => hS'.weak hK)
  rw [hlen] at this
  simpa using this
theorem drK {X : Cx} {F : Mem} {L : Slots} {K : Own} {s : List SI} {id : Nat} {l : List Oper} (b : Nat) (D : List Nat) (K0 : Own) (p : List Nat) (h : JD X l b F K0 D (pm p) (Array.replicate l.length false) s F L K) (hK : KSub K0 K := by repeat' first | exact trivial | refine And.intro rfl ?_) (hm : X.P.follows .mixedOrders = true := by kernel_rfl) (hlen : pl (pm p) = l.length := by kernel_rfl) (hp : planOk l b (Array.replicate l.length false) (pm p) = true := by kernel_rfl)
    (nop : ∀ c F L K, ¬ X.R (.panic c) F L K := by intro _ _ _ _ h; exact h) (sel : Region.noSelect l.toArray = true := by kernel_rfl) (sub : (X.D.all fun t => D.contains t) = true := by rfl) (tgk : tgK D K0 = true := by rfl) : J X (.code (.region id l.toArray true) :: s) F L K :=
  J.drawK b D (pm p) hK hm hlen hp ⟨nop, sel, sub, tgk⟩ h
section
variable {X : Cx} {F F0 : Mem} {L : Slots} {K K0 : Own} {s : List SI} {ops : Array Oper} {l : List Oper} {b : Nat} {D : List Nat} {p : List (Nat × Bool)} {listed : Array Bool}
/-- append to nothing -/
theorem japN {i : Nat} {o : Oper} {Θ : Tab} {ty ty' el : TypeId} {sx x : Operand} {d m : Nat} {ti ti' tj : Ty} {xv : Value} {news : List Value} (t : Nat) (fl : Bool)
    (hk : ∀ cap, m ≤ cap → cap ≤ 9223372036854775807 → JD X l b F0 K0 D p (listed.setIfInBounds i true) s F ((d, .slice (some ⟨t, 0, some 0⟩) m cap) :: L) ((t, { elem := el, cs := news, room := cap * tj.size, flat := fl }) :: K))
    (hp0 : planOk l b (listed.setIfInBounds i true) p = true := by kernel_rfl) (ho' : l[i]? = some o := by rfl) (hg : o.guard = none := by rfl) (ho : o.op = .call ⟨.builtin .append, #[sx, x], #[ty, ty']⟩ := by rfl) (hd : o.dst = some d := by rfl) (hN : d < X.N := by exact Nat.le_of_ble_eq_true rfl) (hθ : tabOk X.P Θ = true := by exact hT)
    (hi : Θ.lookup ty = some ti := by rfl) (hki : ti.k = .slice el := by rfl) (hi' : Θ.lookup ty' = some ti' := by rfl) (hk' : slB ti'.k = true := by rfl) (hj : Θ.lookup el = some tj := by rfl) (hz0 : tj.zero.length = tj.size := by rfl) (hz1 : 0 < tj.size := by exact Nat.le_of_ble_eq_true rfl)
    (hs : evO L sx = some (.slice none 0 0) := by rfl) (hx : evO L x = some xv := by rfl) (happ : App X.P F K tj.size xv m news := by exact App.slice rfl (by simp [Value.oneCell']; done) rfl)
    (hm : 0 < m := by first | exact Nat.le_of_ble_eq_true rfl | omega) (h63 : m ≤ 9223372036854775807 := by first | exact Nat.le_of_ble_eq_true rfl | omega) (hby : m * tj.bytes ≤ 140737488355328 := by first | exact Nat.le_of_ble_eq_true rfl | (dsimp only; omega))
    (hflat : fl = true → news.all plain1 = true := by intro _; rfl) (hL : ntL t L = true := by rfl) (hK : ntK t K = true := by rfl) (hnn : news.all (nt1 t) = true := by rfl) (hD : D.contains t = false := by rfl)
    (hkp : ∀ cap, Kept b F0 K0 (listed.setIfInBounds i true) F ((t, { elem := el, cs := news, room := cap * tj.size, flat := fl }) :: K) := by intro cap; first | exact Kept.all | exact Kept.k0 | exact Kept.kY | exact Kept.kYY | exact Kept.kY3) : JS X l b F0 K0 D p listed s i F L K := by
  refine JS.op ho' hg hp0 (Go1.append (t := t) (n := 0) (c := 0) (olds := []) (K0 := K) (fz := false) (fl := fl) hθ ho hd hN hi hki hi' hk' hj hz0 hz1 hs hx happ hm (.inl ⟨rfl, rfl, rfl, rfl, rfl⟩) (by simp) hflat (by omega) (by simpa using hby) hL hK hnn hD ?_)
  intro cap h1 h2
  simp only [Nat.zero_add, List.nil_append] at h1 ⊢
  exact ⟨hkp cap, hk cap h1 h2⟩
/-- append to an own row of the tag u: the row has the new tag t behind it -/
theorem japO {i : Nat} {o : Oper} {Θ : Tab} {ty ty' el : TypeId} {sx x : Operand} {d u m n c : Nat} {ti ti' tj : Ty} {xv : Value} {news : List Value} {r : Row} (t : Nat)
    (hk : ∀ cap, n + m ≤ cap → cap ≤ 9223372036854775807 → JD X l b F0 K0 D p (listed.setIfInBounds i true) s F ((d, .slice (some ⟨t, 0, some 0⟩) (n + m) cap) :: L) ((t, { elem := el, cs := r.cs ++ news, room := cap * tj.size, fz := r.fz, flat := r.flat }) :: delK u K))
    (hp0 : planOk l b (listed.setIfInBounds i true) p = true := by kernel_rfl) (ho' : l[i]? = some o := by rfl) (hg : o.guard = none := by rfl) (ho : o.op = .call ⟨.builtin .append, #[sx, x], #[ty, ty']⟩ := by rfl) (hd : o.dst = some d := by rfl) (hN : d < X.N := by exact Nat.le_of_ble_eq_true rfl) (hθ : tabOk X.P Θ = true := by exact hT)
    (hi : Θ.lookup ty = some ti := by rfl) (hki : ti.k = .slice el := by rfl) (hi' : Θ.lookup ty' = some ti' := by rfl) (hk' : slB ti'.k = true := by rfl) (hj : Θ.lookup el = some tj := by rfl) (hz0 : tj.zero.length = tj.size := by rfl) (hz1 : 0 < tj.size := by exact Nat.le_of_ble_eq_true rfl)
    (hs : evO L sx = some (.slice (some ⟨u, 0, some 0⟩) n c) := by rfl) (hx : evO L x = some xv := by rfl) (hr : K.lookup u = some r := by rfl) (happ : App X.P F K tj.size xv m news := by exact App.slice rfl (by simp [Value.oneCell']; done) rfl)
    (hroom : r.room = c * tj.size := by rfl) (hel : r.elem = el := by rfl) (hol : r.cs.length = n * tj.size := by first | rfl | (dsimp only; omega) | (simp; done) | (simp; omega)) (hnc : n ≤ c := by omega) (hcm : c ≤ 9223372036854775807 := by omega)
    (hm : 0 < m := by first | exact Nat.le_of_ble_eq_true rfl | omega) (h63 : n + m ≤ 9223372036854775807 := by omega) (hby : (n + m) * tj.bytes ≤ 140737488355328 := by (dsimp only; omega))
    (hflat : r.flat = true → news.all plain1 = true := by intro _; rfl) (hL : ntL t L = true := by rfl) (hK : ntK t K = true := by rfl) (hnn : news.all (nt1 t) = true := by rfl) (hD : D.contains t = false := by rfl)
    (hkp : ∀ cap, Kept b F0 K0 (listed.setIfInBounds i true) F ((t, { elem := el, cs := r.cs ++ news, room := cap * tj.size, fz := r.fz, flat := r.flat }) :: delK u K) := by intro cap; first | exact Kept.all | exact Kept.k0 | exact Kept.kY | exact Kept.kYY | exact Kept.kY3) : JS X l b F0 K0 D p listed s i F L K := by
  refine JS.op ho' hg hp0 (Go1.append (t := t) (n := n) (c := c) (olds := r.cs) (K0 := delK u K) (fz := r.fz) (fl := r.flat) hθ ho hd hN hi hki hi' hk' hj hz0 hz1 hs hx happ hm (.inr ⟨u, r, rfl, hr, rfl, hroom, hel, hnc, hcm, rfl, id, id⟩) hol hflat h63 hby hL hK hnn hD ?_)
  intro cap h1 h2
  exact ⟨hkp cap, hk cap h1 h2⟩
end
end Go.Proofs.Ytnkddjdmpnghmaa.Am
namespace Go.Proofs.Ytnkddjdmpnghmaa.Am
set_option linter.unusedSimpArgs false
set_option linter.unusedVariables false
open Go Go.RowKit
section
variable {X : Cx} {F : Mem} {L : Slots} {K : Own} {s : List SI} {ops : Array Oper} {lo : List Oper}
/-- a row that a slot shows as a slice gets another tag -/
theorem JL.retagS {d t u n c : Nat} {r : Row} (Lk : Slots) (Kk : Own) (h : JL X ops lo s F ((d, .slice (some ⟨u, 0, some 0⟩) n c) :: Lk) ((u, r) :: Kk)) (hd : L.lookup d = some (.slice (some ⟨t, 0, some 0⟩) n c) := by rfl) (hr : K.lookup t = some r := by rfl)
    (hLk : LSub Lk L := by repeat' first | exact trivial | refine And.intro rfl ?_) (hKk : KSub ((t, r) :: Kk) K := by repeat' first | exact trivial | refine And.intro rfl ?_) (hL : ntL u Lk = true := by rfl) (hK : ntK u Kk = true := by rfl) (hru : (r.flat || r.cs.all (nt1 u)) = true := by rfl) (hD : X.D.contains u = false := by rfl) : JL X ops lo s F L K := by
  intro ι a w hF hS
  have hS1 := hS.weak hKk
  have hagree : ∀ v ∈ X.D, upd ι u (ι t) v = ι v := fun v hv => upd_ne ι (fun e => by subst e; simp at hD; exact hD hv)
  refine JL.tr hagree (h (upd ι u (ι t)) a w ?_ (hS1.retag hK hru))
  have hF0 := hF.weak hLk
  refine ⟨hF.size, hF.defers, fun s v hv => ?_⟩
  rw [List.lookup_cons] at hv
  split at hv
  · rename_i e
    have e1 : s = d := by simpa using e
    subst e1
    simp only [Option.some.injEq] at hv
    subst hv
    have := hF.slot s _ hd
    simpa [upd_eq] using this
  · have e1 := (hF0.nt (κ := upd ι u (ι t)) (t := u) (fun v hv => upd_ne ι hv) hL).slot s v hv
    exact e1
end
section
variable {X : Cx} {F : Mem} {L : Slots} {K : Own} {s : List SI} {ops : Array Oper} {lo : List Oper}
/-- a row that a cell of another row points to gets another tag -/
theorem JL.retagCP {A t u off p : Nat} {rA r : Row} (Lk : Slots) (Kk : Own) (h : JL X ops lo s F Lk (setK A { rA with cs := rA.cs.set off (.pointer (some ⟨u, p, some 0⟩)) } ((u, r) :: (A, rA) :: Kk)))
    (hA : K.lookup A = some rA := by rfl) (hr : K.lookup t = some r := by rfl) (hcell : rA.cs[off]? = some (.pointer (some ⟨t, p, some 0⟩)) := by rfl) (hfA : rA.flat = false := by rfl) (hAu : (A == u) = false := by rfl)
    (hLk : LSub Lk L := by repeat' first | exact trivial | refine And.intro rfl ?_) (hKk : KSub ((t, r) :: (A, rA) :: Kk) K := by repeat' first | exact trivial | refine And.intro rfl ?_) (hL : ntL u Lk = true := by rfl) (hK : ntK u ((A, rA) :: Kk) = true := by rfl) (hru : (r.flat || r.cs.all (nt1 u)) = true := by rfl) (hD : X.D.contains u = false := by rfl) : JL X ops lo s F L K := by
  intro ι a w hF hS
  have hS1 := hS.weak hKk
  have hagree : ∀ v ∈ X.D, upd ι u (ι t) v = ι v := fun v hv => upd_ne ι (fun e => by subst e; simp at hD; exact hD hv)
  have hS2 := hS1.retag hK hru
  have hlk : ((u, r) :: (A, rA) :: Kk).lookup A = some rA := by
    rw [List.lookup_cons, hAu, List.lookup_cons_self]
  have htt : upd ι u (ι t) t = ι t := by
    by_cases e : t = u
    · subst e; exact upd_eq ..
    · exact upd_ne ι e
  have hc : ({ rA with cs := rA.cs.set off (.pointer (some ⟨u, p, some 0⟩)) } : Row).c (upd ι u (ι t)) = rA.c (upd ι u (ι t)) := by
    simp only [Row.c]
    congr 1
    rw [List.map_set]
    apply List.ext_getElem?
    intro j
    rw [List.getElem?_set]
    split
    · rename_i e
      subst e
      have hlt := (List.getElem?_eq_some_iff.1 hcell).1
      rw [List.length_map, if_pos hlt, List.getElem?_map, hcell]
      show some (c1 _ (.pointer (some ⟨u, p, some 0⟩))) = some (c1 _ (.pointer (some ⟨t, p, some 0⟩)))
      show some (Value.pointer (some ⟨upd ι u (ι t) u, p, none⟩)) = some (Value.pointer (some ⟨upd ι u (ι t) t, p, none⟩))
      rw [htt, upd_eq]
    · rfl
  have hh := (hS2.own (A, rA) (by simp)).2.1
  refine JL.tr hagree (h (upd ι u (ι t)) a w ?_ (hS2.set hlk (fun _ _ => rfl) rfl rfl rfl rfl (by rw [hc]; exact hh) (fun hf => by rw [show ({ rA with cs := rA.cs.set off (.pointer (some ⟨u, p, some 0⟩)) } : Row).flat = rA.flat from rfl, hfA] at hf; cases hf)))
  exact (hF.weak hLk).nt (κ := upd ι u (ι t)) (t := u) (fun v hv => upd_ne ι hv) hL
end
end Go.Proofs.Ytnkddjdmpnghmaa.Am
namespace Go.Proofs.Ytnkddjdmpnghmaa.Am
set_option linter.unusedSimpArgs false
set_option linter.unusedVariables false
set_option maxRecDepth 100000
set_option maxHeartbeats 4000000
open Go Go.RowKit
theorem sdCutLH {F : Mem} {K : Own} {L : Slots} {t el : TypeId} {x y z : Operand} {b off n c l h : Nat} {k k' : IntKind} {ti tj : Ty} (hx : evO L x = some (.slice (some ⟨b, off, none⟩) n c) := by rfl) (hy : evO L y = some (.int k (l : Int)) := by rfl) (hz : evO L z = some (.int k' (h : Int)) := by rfl) (ht : Θ.lookup t = some ti := by rfl) (hk : ti.k = .slice el := by rfl) (hj : Θ.lookup el = some tj := by rfl) (h0 : l ≤ h := by omega) (h1 : h ≤ c := by omega) (h2 : l < c := by omega) :
    SD Try.prog F K L (.slice t x (some y) (some z) none) (.slice (some ⟨b, off + l * tj.size, none⟩) (h - l) (c - l)) := by
  have := SD.cutS (P := Try.prog) (F := F) (K := K) (L := L) hT ht hk hj hx (lo := some y) (hi := some z) (l := l) (h := h) ⟨k, hy⟩ ⟨k', hz⟩ h0 h1
  rw [if_neg (by omega)] at this
  exact this
theorem RGl.ixq {F : Mem} {g : Value} {xs : List Int} (h : RGl F g xs) : ∃ a c, g = .slice a xs.length c ∧ RIx F a xs := by
  rcases h with h | ⟨b, o, s, rfl, rfl⟩
  · exact RIx.ofInts h
  · exact ⟨_, 0, rfl, .inr (.inr ⟨b, o, s, rfl⟩), by simp, fun h => by simp at h⟩
theorem look_leN {F F' : Mem} (hl : F.le F') : ∀ {n : Nat} {a : Addr} {cs : List Value}, lookN F a n = some cs → lookN F' a n = some cs := by
  intro n
  induction n with
  | zero => intro a cs h; exact h
  | succ n ih =>
    intro a cs h
    simp only [lookN] at h ⊢
    split at h <;> try (simp at h; done)
    rename_i v hv
    split at h <;> try (simp at h; done)
    rename_i cs' hcs
    rw [hl _ _ hv, ih hcs]; exact h
theorem tg1_n (D : List Nat) (n c : Nat) : tg1 D (.slice none n c) = true := rfl
theorem tg1_o (D : List Nat) (u o n c : Nat) : tg1 D (.slice (some ⟨u, o, some 0⟩) n c) = D.contains u := rfl
theorem tg1_w (D : List Nat) (b o n c : Nat) : tg1 D (.slice (some ⟨b, o, none⟩) n c) = true := rfl
theorem tg1_p (D : List Nat) (u o : Nat) : tg1 D (.pointer (some ⟨u, o, some 0⟩)) = D.contains u := rfl
theorem nt1_p0 (t : Nat) : nt1 t (.pointer none) = true := rfl
theorem nt1_pv (t b o : Nat) : nt1 t (.pointer (some ⟨b, o, none⟩)) = true := rfl
theorem Item.pl_cells (x : Item) {g : Value} (h : plain1 g = true) : ∀ u ∈ x.cells g, plain1 u = true := by
  intro u hu
  simp only [Item.cells, List.mem_cons, List.not_mem_nil, or_false] at hu
  rcases hu with rfl | rfl | rfl | rfl | rfl | rfl | rfl | rfl | rfl | rfl | rfl <;> first | rfl | exact h
theorem RGl.pl1 {F : Mem} {g : Value} {xs : List Int} (h : RGl F g xs) : plain1 g = true := by
  rcases h with (⟨b, o, c, rfl, _⟩ | ⟨rfl, _⟩) | ⟨b, o, s, rfl, _⟩ <;> rfl
theorem RItems.pl1 {F : Mem} {v : Value} {l : List Item} (h : RItems F v l) : plain1 v = true := by
  rcases h with ⟨b, o, c, rfl, _⟩ | ⟨rfl, _⟩ <;> rfl
theorem RItems.part {F : Mem} {b o n : Nat} {l : List Item} (h63 : l.length ≤ 9223372036854775807) (h : ∀ i x, l[i]? = some x → ∃ g, lookN F ⟨b, o + i * 11, none⟩ 11 = some (x.cells g) ∧ RGl F g x.glyphs) {i j : Nat} (hij : i ≤ j) (hj : j ≤ l.length) (k : Nat) (hn : n = j - i) : RItems F (.slice (some ⟨b, o + i * 11, none⟩) n k) ((l.drop i).take (j - i)) := by
  have hlen : ((l.drop i).take (j - i)).length = n := by rw [List.length_take, List.length_drop]; omega
  refine .inl ⟨b, o + i * 11, k, by rw [hlen], by omega, fun d x hd => ?_⟩
  rw [List.getElem?_take] at hd
  split at hd
  · rw [List.getElem?_drop] at hd
    obtain ⟨g, h1, h2⟩ := h _ _ hd
    exact ⟨g, by rw [← h1]; congr 2; omega, h2⟩
  · cases hd
/-- a line, set up: what its cells tell -/
def RLn (F : Mem) (u : Value) (Y : List (Nat × Row)) (l : List Item) (x : Item) (gs : List Int) (fr : Int) (ov : Bool) (al : Int) : Prop := ∃ pb lv g ga gc, u = .pointer (some ⟨pb, 0, none⟩) ∧ RItems F lv l ∧ RGl F g x.glyphs ∧ ∀ G, Rd G Y → lookN G ⟨pb, 0, none⟩ 16 = some (lv :: (x.cells g ++ [.slice ga gs.length gc, .int .i64 fr, .bool ov, .int .i64 al])) ∧ RIx G ga gs ∧ gs.length ≤ gc
theorem RLn.of {F : Mem} {Y : List (Nat × Row)} {ι : Nat → Nat} {ty : TypeId} {pb : Nat} {lv : Value} {x : Item} {g gv : Value} {ga : Option Addr} {gc : Nat} {fr : Int} {ov : Bool} {al : Int} {l : List Item} {gs : List Int}
    (hm : (pb, (lnRow ty lv x g gv fr ov al).r ι) ∈ Y) (hlv : RItems F lv l) (hgl : RGl F g x.glyphs) (hgv : r1 ι gv = .slice ga gs.length gc) (hix : ∀ G, Rd G Y → RIx G ga gs) (hgc : gs.length ≤ gc) : RLn F (.pointer (some ⟨pb, 0, none⟩)) Y l x gs fr ov al := by
  refine ⟨pb, lv, g, ga, gc, rfl, hlv, hgl, fun G hG => ⟨?_, hix G hG, hgc⟩⟩
  have e : ((lnRow ty lv x g gv fr ov al).r ι).cs = lv :: (x.cells g ++ [.slice ga gs.length gc, .int .i64 fr, .bool ov, .int .i64 al]) := by
    simp only [Row.r, lnRow, Item.cells, List.map_cons, List.map_nil, List.cons_append, List.nil_append, r1_plain ι hlv.pl1, r1_plain ι hgl.pl1, hgv]
    rfl
  have := lookN_of (F := G) (a := ⟨pb, 0, none⟩) (cs := ((lnRow ty lv x g gv fr ov al).r ι).cs) fun j v hj => by
    have := hG _ hm j v hj
    simpa [addA] using this
  rw [e] at this
  exact this
theorem glueD_1 {l : List Item} {a1 b : Nat} {w al : Int} (h1 : 0 < w - mW l a1 b) (h2 : al = 0) (h3 : 0 < mY l a1 b) : glueD l a1 b w al = (giveD (glW l a1 b) (sharD (w - mW l a1 b) (glY l a1 b)) 1, false) := by
  rw [glueD, if_pos ⟨h1, h2, h3⟩, freeD]
theorem glueD_2 {l : List Item} {a1 b : Nat} {w al : Int} (h1 : w - mW l a1 b < 0) : glueD l a1 b w al = (giveD (glW l a1 b) (sharD (min (-(w - mW l a1 b)) (mZ l a1 b)) (glZ l a1 b)) (-1), decide (mZ l a1 b < -(w - mW l a1 b))) := by
  unfold glueD freeD
  rw [if_neg (fun h => by have := h.1; omega), if_pos h1]
theorem giveD_len (ws : List Int) (o : Option (List Int)) (sg : Int) : (giveD ws o sg).length = ws.length := by
  cases o with
  | none => rfl
  | some s => exact addTo_len _ _ _ _
theorem giveD_nil (o : Option (List Int)) (sg : Int) : giveD [] o sg = [] := List.eq_nil_of_length_eq_zero (giveD_len _ _ _)
theorem give_n (F : Mem) (t sg : Int) (ws ys : List Int) (lv : Value) (x : Item) (g : Value) (fr : Int) (ov : Bool) (al : Int) (gc c4 r3 r4 n : Nat) (h1 : n = ws.length) (h2 : n = ys.length) (ht : i64ok t) (hw : ∀ x ∈ ws, 0 ≤ x ∧ x ≤ 1073741824) (hn : n ≤ 1024) (hsg : sg = 1 ∨ sg = -1) (plv : plain1 lv = true) (pg : plain1 g = true) :
    CA Try.prog [500001, 500002, 500003, 500004] [500001, 500002, 500003, 500004] 48 [.int .i64 t, .slice (some ⟨500004, 0, some 0⟩) n c4, .int .i64 sg, .pointer (some ⟨500001, 0, some 0⟩)] F
      [(500001, { elem := 64, cs := [.pointer (some ⟨500002, 0, some 0⟩)], room := 1, fz := false, flat := false }), (500002, lnRow 72 lv x g (.slice (some ⟨500003, 0, some 0⟩) n gc) fr ov al), (500003, { elem := 3, cs := ivs ws, room := r3, fz := false, flat := true }), (500004, { elem := 3, cs := ivs ys, room := r4, fz := false, flat := true })]
      (fun v _ K' => v = .tuple #[] ∧ K' = [(500001, { elem := 64, cs := [.pointer (some ⟨500002, 0, some 0⟩)], room := 1, fz := false, flat := false }), (500002, lnRow 72 lv x g (.slice (some ⟨500003, 0, some 0⟩) n gc) fr ov al), (500003, { elem := 3, cs := ivs (giveD ws (sharD t ys) sg), room := r3, fz := false, flat := true }), (500004, { elem := 3, cs := ivs ys, room := r4, fz := false, flat := true })]) := by
  have e := give_CA F t sg ws ys lv x g fr ov al gc c4 r3 r4 ht hw (h2.symm.trans h1) (by omega) hsg plv pg
  rw [← h2, ← h1] at e
  exact e
theorem give0_CA (F : Mem) (t sg : Int) (pb : Nat) (ht : i64ok t) : CA Try.prog [] [] 48 [.int .i64 t, .slice none 0 0, .int .i64 sg, .pointer (some ⟨pb, 0, none⟩)] F [] (fun v _ K' => v = .tuple #[] ∧ K' = []) := by
  generalize ho : sharD t [] = o
  refine CA.go hT Try.func48 Try.ntmps48 ?_
  refine sq ?_
  refine rg ?_
  iterate 2 (refine st (h := O) ?_)
  refine clC (h := by exact fun ι hV hl => fShare_C _ t none 0 [] ht (RIx.none _) (by decide)) ?_
  intro u1 Y1 hQ1 hv1 hp1 hN1
  rw [ho] at hQ1
  rcases o with _ | s
  · obtain rfl : u1 = .tuple #[.slice none 0 0, .bool false] := hQ1
    iterate 5 (refine st (h := O) ?_)
    refine nl ?_
    refine sq ?_
    refine rg ?_
    refine st (h := O) ?_
    refine nl ?_
    refine cB (fun c0 => ?_) (fun c0 => ?_)
    ·try (exact absurd c0 (by decide))
     all_goals
       refine sq ?_
       refine rg ?_
       iterate 3 (refine st (h := O) ?_)
       refine nl ?_
       refine bl ?_
       refine J.loop1 (α := Nat) (fun j => j ≤ s.length) (fun j => [(19, .int .i64 j)]) [(2, _), (3, _), (7, _), (18, _)] (fun j => []) [] (fun j => s.length - j) (0) (by exact ⟨rfl, trivial⟩) (by exact ⟨rfl, rfl, rfl, rfl, trivial⟩) (by exact trivial) ?_ ?_
       · exact Nat.zero_le _
       ·intro j L1 K1 e1 e2 hI
        dsimp only [apV, apR, List.cons_append, List.nil_append] at e1 e2
        subst e1 e2
        refine sq ?_
        refine rg ?_
        refine st (h := O) ?_
        refine nl ?_
        refine sq ?_
        refine cD (fun c1 => ?_) (fun c1 => ?_)
        ·rw [hsl] at c1
         exact absurd c1 (by simp)
        ·refine ex ?_
         first
           | exact absurd c0 (by decide)
           | exact reAY _ hp1 ⟨rfl, rfl⟩
    ·refine sk ?_
     first
       | exact absurd c0 (by decide)
       | exact reAY _ hp1 ⟨rfl, rfl⟩
  · obtain ⟨sa, sc, rfl, hR1⟩ := hQ1
    have hsl := sharD_len ho
    iterate 5 (refine st (h := O) ?_)
    refine nl ?_
    refine sq ?_
    refine rg ?_
    refine st (h := O) ?_
    refine nl ?_
    refine cB (fun c0 => ?_) (fun c0 => ?_)
    ·try (exact absurd c0 (by decide))
     all_goals
       refine sq ?_
       refine rg ?_
       iterate 3 (refine st (h := O) ?_)
       refine nl ?_
       refine bl ?_
       refine J.loop1 (α := Nat) (fun j => j ≤ s.length) (fun j => [(19, .int .i64 j)]) [(2, _), (3, _), (7, _), (18, _)] (fun j => []) [] (fun j => s.length - j) (0) (by exact ⟨rfl, trivial⟩) (by exact ⟨rfl, rfl, rfl, rfl, trivial⟩) (by exact trivial) ?_ ?_
       · exact Nat.zero_le _
       ·intro j L1 K1 e1 e2 hI
        dsimp only [apV, apR, List.cons_append, List.nil_append] at e1 e2
        subst e1 e2
        refine sq ?_
        refine rg ?_
        refine st (h := O) ?_
        refine nl ?_
        refine sq ?_
        refine cD (fun c1 => ?_) (fun c1 => ?_)
        ·rw [hsl] at c1
         exact absurd c1 (by simp)
        ·refine ex ?_
         first
           | exact absurd c0 (by decide)
           | exact reAY _ hp1 ⟨rfl, rfl⟩
    ·refine sk ?_
     first
       | exact absurd c0 (by decide)
       | exact reAY _ hp1 ⟨rfl, rfl⟩
theorem of_C (F Fb : Mem) (v : Value) (l : List Item) (a : Int) (a1 b : Nat) (width ag : Int) (hvb : RItems Fb v l) (hle : Fb.le F) (hg : goodL l = true) (ha : a + 1 = a1) (hb : b < l.length) (hln : lineB l a b = true) (hw : 1 ≤ width ∧ width ≤ 1073741824) (hcap : ∀ a n c, v = .slice (some a) n c → n ≤ c) : C Try.prog 29 [v, .int .i64 a, .int .i64 b, .int .i64 width, .int .i64 ag] F (fun u Y => RLn Fb u Y ((l.drop (fromA l a1 b)).take (b - fromA l a1 b)) (at_ l b) (glueD l a1 b width ag).1 (width - mW l a1 b) (glueD l a1 b width ag).2 ag) := by
  have hv := hvb.le hle
  have hlen := good_len hg
  have hIt := hv
  rcases hvb.cases with ⟨vb, vo, vc, rfl, h63, hrb⟩ | ⟨rfl, rfl⟩
  · have hr : ∀ i, i < l.length → look F ⟨vb, vo + i * 11 + 0, none⟩ = some (.int .i64 (at_ l i).kind) ∧ look F ⟨vb, vo + i * 11 + 1, none⟩ = some (.int .i64 (at_ l i).width) ∧ look F ⟨vb, vo + i * 11 + 2, none⟩ = some (.int .i64 (at_ l i).stretch) ∧ look F ⟨vb, vo + i * 11 + 3, none⟩ = some (.int .i64 (at_ l i).shrink) ∧ look F ⟨vb, vo + i * 11 + 4, none⟩ = some (.int .i64 (at_ l i).cost) ∧ look F ⟨vb, vo + i * 11 + 5, none⟩ = some (.bool (at_ l i).flag) ∧ ∃ g, lookN F ⟨vb, vo + i * 11, none⟩ 11 = some ((at_ l i).cells g) ∧ RGl F g (at_ l i).glyphs := fun i hi => by
      obtain ⟨q0, q1, q2, q3, q4, q5, g, q6, q7⟩ := hrb i hi
      exact ⟨hle _ _ q0, hle _ _ q1, hle _ _ q2, hle _ _ q3, hle _ _ q4, hle _ _ q5, g, look_leN hle q6, q7.le hle⟩
    have hRI : ∀ i x, l[i]? = some x → ∃ g, lookN Fb ⟨vb, vo + i * 11, none⟩ 11 = some (x.cells g) ∧ RGl Fb g x.glyphs := fun i x hx => by
      obtain ⟨_, _, _, _, _, _, g, q1, q2⟩ := hrb i (List.getElem?_eq_some_iff.1 hx).1
      have e := at_get (List.getElem?_eq_some_iff.1 hx).1
      rw [hx, Option.some.injEq] at e
      rw [e]
      exact ⟨g, q1, q2⟩
    have hab : a < b := by
      simp only [lineB, Bool.and_eq_true, decide_eq_true_eq] at hln
      exact hln.1.2
    have hmd : measD l a b = (mW l a1 b, mY l a1 b, mZ l a1 b) := by
      rw [measD, if_pos hln, ha, Int.toNat_natCast, Int.toNat_natCast]
    have hbg : beginAt l b (b - a1) a1 = fromA l a1 b := begin_eq hg _ _ _ (by omega) (by omega)
    have hfl := fromA_le l a1 b
    have bW := mW_bd hg (a1 := a1) hb
    have oW := gl_mem_ok hg (f := Item.width) (i := fromA l a1 b) (d := b - fromA l a1 b) (by omega) okW
    have oY := gl_mem_ok hg (f := Item.stretch) (i := fromA l a1 b) (d := b - fromA l a1 b) (by omega) okY
    have oZ := gl_mem_ok hg (f := Item.shrink) (i := fromA l a1 b) (d := b - fromA l a1 b) (by omega) okZ
    have eY := glY_sum l a1 b
    have eZ := glZ_sum l a1 b
    have nY := gluL_le Item.stretch l (fromA l a1 b) (b - fromA l a1 b)
    have bY := gl_sum oY _ (Nat.le_refl _)
    have bZ := gl_sum oZ _ (Nat.le_refl _)
    obtain ⟨e0b, e1b, e2b, e3b, e4b, e5b, g0, he2b, heib⟩ := hrb b hb
    have e0 := hle _ _ e0b
    have e1 := hle _ _ e1b
    have e2 := hle _ _ e2b
    have e3 := hle _ _ e3b
    have e4 := hle _ _ e4b
    have e5 := hle _ _ e5b
    have he2 := look_leN hle he2b
    have hei := heib.le hle
    clear e0b e1b e2b e3b e4b e5b
    obtain ⟨ea, ec, rfl, hea⟩ := hei.ixq
    have hep := hea.pl
    generalize hfm : fromA l a1 b = fm at *
    refine C.go hT Try.func29 Try.ntmps29 ?_
    refine sq ?_
    refine rg ?_
    refine st (h := O) ?_
    refine nl ?_
    refine sq ?_
    refine rg ?_
    iterate 3 (refine st (h := O) ?_)
    refine cl (h := by exact fun ι hV hl => (hmd ▸ Measure_C _ _ l a b (hv.le hl))) ?_
    iterate 7 (refine st (h := O) ?_)
    refine nl ?_
    refine sq ?_
    refine rg ?_
    refine st (h := O) ?_
    refine st (h := (sdA (a := a) (b := 1)).cast (congrArg (Value.int .i64) ha)) ?_
    refine st (h := O) ?_
    refine nl ?_
    refine sq ?_
    refine bl ?_
    refine J.loop1 (α := Nat) (fun k => a1 ≤ k ∧ k ≤ b ∧ beginAt l b (b - k) k = fm) (fun k => [(1, .int .i64 k)]) [(0, _), (2, _), (3, _), (4, _), (11, _), (12, _), (13, _)] (fun k => []) [] (fun k => b - k) (a1) (by exact ⟨rfl, trivial⟩) (by exact ⟨rfl, rfl, rfl, rfl, rfl, rfl, rfl, trivial⟩) (by exact trivial) ?_ ?_
    · exact ⟨Nat.le_refl _, by omega, hbg⟩
    ·intro k L1 K1 e1 e2 hI
     dsimp only [apV, apR, List.cons_append, List.nil_append] at e1 e2
     subst e1 e2
     obtain ⟨hk1, hk2, hbk⟩ := hI
     have hbs : k < b → beginAt l b (b - k) k = if skipB (at_ l k) = true then beginAt l b (b - (k + 1)) (k + 1) else k := fun hkb => by
       obtain ⟨d, hd⟩ : ∃ d, b - k = d + 1 := ⟨b - k - 1, by omega⟩
       rw [hd, show b - (k + 1) = d from by omega, beginAt, if_pos hkb]
     iterate 2 (refine sq ?_)
     refine J.cut1 (α := Bool) (fun q => q = decide (k < b ∧ skipB (at_ l k) = true)) (fun q => [(57, .bool q)]) [(0, _), (1, _), (2, _), (3, _), (4, _), (11, _), (12, _), (13, _)] (fun q => []) [] (by exact ⟨rfl, rfl, rfl, rfl, rfl, rfl, rfl, rfl, trivial⟩) (by exact trivial) ?_ ?_
     ·refine rg ?_
      iterate 4 (refine st (h := O) ?_)
      refine gD (fun g34 => ?_) (fun g34 => ?_)
      ·have hkb : k < b := by omega
       obtain ⟨r0, r1, r2, r3, r4, r5, g, hg2, hri⟩ := hr k (by omega)
       rw [show vo + k * 11 = vo + (k : Int).toNat * 11 from rfl] at r0 r4
       iterate 2 (refine sg (h := O) ?_)
       refine sg (h := (sdX (z := 11))) ?_
       refine sg (h := sdFA) ?_
       refine sg (h := (by first | exact sdLG | exact sdW)) ?_
       refine sg (h := O) ?_
       iterate 2 (refine st (h := O) ?_)
       refine gN (fun g42 => ?_) (fun g42 => ?_)
       ·refine sg (h := O) ?_
        refine sg (h := O) ?_
        refine sg (h := (sdX (z := 11))) ?_
        refine sg (h := sdFA) ?_
        refine sg (h := (by first | exact sdLG | exact sdW)) ?_
        iterate 2 (refine sg (h := O) ?_)
        refine gD (fun g49 => ?_) (fun g49 => ?_)
        ·refine sp ?_
         iterate 5 (refine sp ?_)
         refine sg (h := O) ?_
         refine st (h := O) ?_
         refine nl ?_
         refine ck1 (_) (by exact ⟨rfl, trivial⟩) (by exact ⟨rfl, rfl, rfl, rfl, rfl, rfl, rfl, rfl, trivial⟩) (by exact trivial) ?_
         have hk := fun h => good_ok hg (i := k) h
         simp only [Item.ok, decide_eq_true_eq] at hk
         simp only [skipB, Bool.or_eq_true, Bool.and_eq_true, decide_eq_true_eq]
         first
           | (rw [eq_comm, decide_eq_false_iff_not]; have := hk (by omega); omega)
           | (rw [eq_comm, decide_eq_true_eq]; have := hk (by omega); omega)
           | (rw [decide_eq_decide]; have := hk (by omega); omega)
        ·refine sg (h := O) ?_
         refine sg (h := O) ?_
         refine sg (h := (sdX (z := 11))) ?_
         refine sg (h := sdFA) ?_
         refine sg (h := (by first | exact sdLG | exact sdW)) ?_
         iterate 2 (refine sg (h := O) ?_)
         refine st (h := O) ?_
         refine nl ?_
         refine ck1 (_) (by exact ⟨rfl, trivial⟩) (by exact ⟨rfl, rfl, rfl, rfl, rfl, rfl, rfl, rfl, trivial⟩) (by exact trivial) ?_
         have hk := fun h => good_ok hg (i := k) h
         simp only [Item.ok, decide_eq_true_eq] at hk
         simp only [skipB, Bool.or_eq_true, Bool.and_eq_true, decide_eq_true_eq]
         first
           | (rw [eq_comm, decide_eq_false_iff_not]; have := hk (by omega); omega)
           | (rw [eq_comm, decide_eq_true_eq]; have := hk (by omega); omega)
           | (rw [decide_eq_decide]; have := hk (by omega); omega)
       ·refine sp ?_
        iterate 6 (refine sp ?_)
        iterate 6 (refine su ?_)
        refine sp ?_
        refine st (h := O) ?_
        refine nl ?_
        refine ck1 (_) (by exact ⟨rfl, trivial⟩) (by exact ⟨rfl, rfl, rfl, rfl, rfl, rfl, rfl, rfl, trivial⟩) (by exact trivial) ?_
        have hk := fun h => good_ok hg (i := k) h
        simp only [Item.ok, decide_eq_true_eq] at hk
        simp only [skipB, Bool.or_eq_true, Bool.and_eq_true, decide_eq_true_eq]
        first
          | (rw [eq_comm, decide_eq_false_iff_not]; have := hk (by omega); omega)
          | (rw [eq_comm, decide_eq_true_eq]; have := hk (by omega); omega)
          | (rw [decide_eq_decide]; have := hk (by omega); omega)
      ·refine sp ?_
       iterate 5 (refine sp ?_)
       iterate 2 (refine st (h := O) ?_)
       iterate 7 (refine sp ?_)
       iterate 6 (refine su ?_)
       refine sp ?_
       refine st (h := O) ?_
       refine nl ?_
       refine ck1 (_) (by exact ⟨rfl, trivial⟩) (by exact ⟨rfl, rfl, rfl, rfl, rfl, rfl, rfl, rfl, trivial⟩) (by exact trivial) ?_
       have hk := fun h => good_ok hg (i := k) h
       simp only [Item.ok, decide_eq_true_eq] at hk
       simp only [skipB, Bool.or_eq_true, Bool.and_eq_true, decide_eq_true_eq]
       first
         | (rw [eq_comm, decide_eq_false_iff_not]; have := hk (by omega); omega)
         | (rw [eq_comm, decide_eq_true_eq]; have := hk (by omega); omega)
         | (rw [decide_eq_decide]; have := hk (by omega); omega)
     ·intro q L1 K1 e1 e2 hI
      dsimp only [List.cons_append, List.nil_append] at e1 e2
      subst e1 e2
      refine cB (fun c0 => ?_) (fun c0 => ?_)
      ·have hsk : k < b ∧ skipB (at_ l k) = true := by rw [c0, eq_comm, decide_eq_true_eq] at hI; exact hI
       refine sk ?_
       refine bl ?_
       refine rg ?_
       refine st (h := O) ?_
       refine st (h := sdA) ?_
       refine st (h := O) ?_
       refine nl ?_
       refine bk ?_
       refine bk1 (k + 1) (by exact ⟨rfl, trivial⟩) (by exact ⟨rfl, rfl, rfl, rfl, rfl, rfl, rfl, trivial⟩) (by exact trivial) ?_ ?_
       · omega
       · exact ⟨by omega, by omega, by rw [hbs hsk.1, if_pos hsk.2] at hbk; exact hbk⟩
      ·have hsk : ¬ (k < b ∧ skipB (at_ l k) = true) := by rw [c0, eq_comm, decide_eq_false_iff_not] at hI; exact hI
       have hke : k = fm := by
         rcases Nat.lt_or_ge k b with h | h
         · rw [hbs h, if_neg (fun e => hsk ⟨h, e⟩)] at hbk; exact hbk
         · rw [show b - k = 0 from by omega] at hbk; exact hbk
       subst hke
       have hvc := hcap _ _ _ rfl
       refine ex ?_
       refine sq ?_
       refine J.cut1 (α := Unit) (fun _ => True) (fun _ => [(14, .pointer (some ⟨14, 0, some 0⟩))]) [(4, _), (12, _), (13, _)] (fun _ => [(14, { elem := 64, cs := [.pointer (some ⟨73, 0, some 0⟩)], room := 1, fz := false, flat := false }), (73, lnRow 72 (.slice (some ⟨vb, vo + k * 11, none⟩) (b - k) (vc - k)) (at_ l b) (.slice ea (at_ l b).glyphs.length ec) (.slice none 0 0) (width - mW l a1 b) false ag)]) [] (by exact ⟨rfl, rfl, rfl, trivial⟩) (by exact trivial) ?_ ?_
       ·refine dr 15 [] [0, 1, 2, 3, 4, 5, 6, 7, 8, 9, 10, 11, 12, 5003] ?_
        iterate 3 (refine dt (hv := by exact O) ?_)
        refine dt (hv := by exact sdCutLH (l := k) (h := b)) ?_
        iterate 2 (refine dt (hv := by exact O) ?_)
        refine dt (hv := by exact (sdX (z := 11))) ?_
        refine dt (hv := by exact sdLN (hv := by exact he2)) ?_
        iterate 2 (refine dt (hv := by exact O) ?_)
        refine dt (hv := by exact sdS) ?_
        iterate 2 (refine dt (hv := by exact O) ?_)
        refine JD.alt (i := 13) (j := 14) [1014, 1015] [1013, 1015] ?_ ?_
        ·refine jbx (hkp := by first | exact Kept.all | exact Kept.k0 | exact Kept.kY | exact Kept.kYY | exact Kept.kY3) (hL := by simp [ntL, ntV, nt2, argL, cellsL, putL, Item.cells, nt1_i, nt1_b, nt1_n, nt1_w, nt1_p, nt1_pv, nt1_p0, hep.nt]) (hK := by simp [ntK, cellsL, putL, Item.cells, nt1_i, nt1_b, nt1_n, nt1_w, nt1_p, nt1_pv, nt1_p0, hep.nt]) ?_
         refine dal (hkp := by first | exact Kept.all | exact Kept.k0 | exact Kept.kY | exact Kept.kYY | exact Kept.kY3) (hL := by simp [ntL, ntV, nt2, argL, cellsL, putL, Item.cells, nt1_i, nt1_b, nt1_n, nt1_w, nt1_p, nt1_pv, nt1_p0, hep.nt]) (hK := by simp [ntK, cellsL, putL, Item.cells, nt1_i, nt1_b, nt1_n, nt1_w, nt1_p, nt1_pv, nt1_p0, hep.nt]) ?_
         refine dso (hkp := by first | exact Kept.all | exact Kept.k0 | exact Kept.kY | exact Kept.kYY | exact Kept.kY3) ?_
         refine dn ?_
         refine ck1 (()) (by exact ⟨rfl, trivial⟩) (by exact ⟨rfl, rfl, rfl, trivial⟩) (by exact ⟨rfl, rfl, rfl, rfl, trivial⟩) ?_
         trivial
        ·refine jal (hkp := by first | exact Kept.all | exact Kept.k0 | exact Kept.kY | exact Kept.kYY | exact Kept.kY3) (hL := by simp [ntL, ntV, nt2, argL, cellsL, putL, Item.cells, nt1_i, nt1_b, nt1_n, nt1_w, nt1_p, nt1_pv, nt1_p0, hep.nt]) (hK := by simp [ntK, cellsL, putL, Item.cells, nt1_i, nt1_b, nt1_n, nt1_w, nt1_p, nt1_pv, nt1_p0, hep.nt]) ?_
         refine dbx (hkp := by first | exact Kept.all | exact Kept.k0 | exact Kept.kY | exact Kept.kYY | exact Kept.kY3) (hL := by simp [ntL, ntV, nt2, argL, cellsL, putL, Item.cells, nt1_i, nt1_b, nt1_n, nt1_w, nt1_p, nt1_pv, nt1_p0, hep.nt]) (hK := by simp [ntK, cellsL, putL, Item.cells, nt1_i, nt1_b, nt1_n, nt1_w, nt1_p, nt1_pv, nt1_p0, hep.nt]) ?_
         refine dso (hkp := by first | exact Kept.all | exact Kept.k0 | exact Kept.kY | exact Kept.kYY | exact Kept.kY3) ?_
         refine dn ?_
         refine ck1 (()) (by exact ⟨rfl, trivial⟩) (by exact ⟨rfl, rfl, rfl, trivial⟩) (by exact ⟨rfl, rfl, rfl, rfl, trivial⟩) ?_
         trivial
       ·intro _ L1 K1 e1 e2 hI
        dsimp only [List.cons_append, List.nil_append] at e1 e2
        subst e1 e2
        refine sq ?_
        refine rg ?_
        refine JL.retagP (d := 14) (t := 14) (u := 500001) (off := 0) [(4, _), (12, _), (13, _)] [(73, _)] ?_ (hK := by simp [ntL, ntV, nt2, ntK, argL, cellsL, putL, lnRow, Item.cells, nt1_i, nt1_b, nt1_n, nt1_w, nt1_p, nt1_o, nt1_pv, nt1_p0, hep.nt, setK, delK, zer])
        refine JL.retagCP (A := 500001) (t := 73) (u := 500002) (off := 0) [(14, _), (4, _), (12, _), (13, _)] [] ?_ (hru := by simp [ntL, ntV, nt2, ntK, argL, cellsL, putL, lnRow, Item.cells, nt1_i, nt1_b, nt1_n, nt1_w, nt1_p, nt1_o, nt1_pv, nt1_p0, hep.nt, setK, delK, zer])
        iterate 2 (refine st (h := O) ?_)
        refine nl ?_
        iterate 2 (refine sq ?_)
        refine rg ?_
        refine st (h := sdL) ?_
        refine st (h := O) ?_
        refine st (h := sdFA) ?_
        refine st (h := sdL) ?_
        iterate 2 (refine st (h := O) ?_)
        refine nl ?_
        refine bl ?_
        refine J.loop4 (α := Option (Nat × Nat × Nat)) (β := Nat) (γ := Nat) (δ := List Value × List Value × List Value) (fun o m d S => k + d ≤ b ∧ m = (gluL Item.width l k d).length ∧ apB (o.map Prod.fst) m ∧ apB (o.map sn2) m ∧ apB (o.map sn3) m ∧ S.1 = ivs (gluL Item.width l k d) ∧ S.2.1 = ivs (gluL Item.stretch l k d) ∧ S.2.2 = ivs (gluL Item.shrink l k d)) (fun o m d S => [(15, apV 500004 (o.map sn2) m), (16, apV 500005 (o.map sn3) m), (79, .int .i64 d)]) [(4, _), (12, _), (13, _), (14, _), (77, _), (78, _)] (fun o m d S => apR 500003 3 1 true (o.map Prod.fst) S.1 ++ apR 500004 3 1 true (o.map sn2) S.2.1 ++ apR 500005 3 1 true (o.map sn3) S.2.2 ++ [(500002, lnRow 72 (.slice (some ⟨vb, vo + k * 11, none⟩) (b - k) (vc - k)) (at_ l b) (.slice ea (at_ l b).glyphs.length ec) (apV 500003 (o.map Prod.fst) m) (width - mW l a1 b) false ag)]) [(500001, _)] (fun o m d S => b - k - d) (none) (0) (0) (([], [], [])) (by exact ⟨rfl, rfl, rfl, trivial⟩) (by exact ⟨rfl, rfl, rfl, rfl, rfl, rfl, trivial⟩) (by exact (by repeat' first | exact trivial | refine And.intro rfl ?_)) ?_ ?_
        · exact ⟨by omega, rfl, rfl, rfl, rfl, rfl, rfl, rfl⟩
        ·intro o m d S L1 K1 e1 e2 hI
         rcases o with _ | cap_o
         all_goals
          dsimp only [apV, apR, List.cons_append, List.nil_append] at e1 e2
          subst e1 e2
          obtain ⟨hd, hm, ap1, ap2, ap3, hS1, hS2, hS3⟩ := hI
          simp only [apB, Option.map_none, Option.map_some] at ap1 ap2 ap3
          have lm : m ≤ d := by rw [hm]; exact gluL_le _ _ _ _
          have l2 : m = (gluL Item.stretch l k d).length := hm.trans (gluL_len _ _ l k d)
          have l3 : m = (gluL Item.shrink l k d).length := hm.trans (gluL_len _ _ l k d)
          let ocap : Option (Nat × Nat × Nat) := by first | exact some cap_o | exact none
          refine sq ?_
          refine rg ?_
          refine st (h := O) ?_
          refine nl ?_
          refine sq ?_
          refine cD (fun c1 => ?_) (fun c1 => ?_)
          ·have hdl : k + d < b := by omega
           obtain ⟨r0, r1, r2, r3, r4, r5, g9, hg2, hri⟩ := hr (k + d) (by omega)
           obtain ⟨ia, ic, rfl, hia⟩ := hri.ixq
           have hip := hia.pl
           rw [show vo + (k + d) * 11 = vo + k * 11 + (d : Int).toNat * 11 from by rw [Int.toNat_natCast]; omega] at hg2
           have k1 : S.1.length = m := by rw [hS1, ivs_length, hm]
           have k2 : S.2.1.length = m := by rw [hS2, ivs_length, l2]
           have k3 : S.2.2.length = m := by rw [hS3, ivs_length, l3]
           refine sk ?_
           refine sq ?_
           refine bl ?_
           refine sq ?_
           refine rg ?_
           refine st (h := (sdX (z := 11))) ?_
           refine st (h := sdLN (hv := by exact hg2)) ?_
           refine al (hL := by simp [ntL, ntV, nt2, ntK, argL, cellsL, putL, lnRow, Item.cells, nt1_i, nt1_b, nt1_n, nt1_w, nt1_p, nt1_o, nt1_pv, nt1_p0, hep.nt, hip.nt]) (hK := by simp [ntL, ntV, nt2, ntK, argL, cellsL, putL, lnRow, Item.cells, nt1_i, nt1_b, nt1_n, nt1_w, nt1_p, nt1_o, nt1_pv, nt1_p0, hep.nt, hip.nt]) ?_
           refine so ?_
           refine nl ?_
           refine sq ?_
           refine rg ?_
           refine JL.flat (by exact Item.pl_cells _ (hip.pl _ _)) ?_
           refine st (h := sdFA) ?_
           refine st (h := sdL) ?_
           refine st (h := O) ?_
           refine nl ?_
           refine cD (fun c2 => ?_) (fun c2 => ?_)
           ·have g1 : gluL Item.width l k (d + 1) = gluL Item.width l k d ++ [(at_ l (k + d)).width] := by rw [gluL, if_pos c2]
            have g2 : gluL Item.stretch l k (d + 1) = gluL Item.stretch l k d ++ [(at_ l (k + d)).stretch] := by rw [gluL, if_pos c2]
            have g3 : gluL Item.shrink l k (d + 1) = gluL Item.shrink l k d ++ [(at_ l (k + d)).shrink] := by rw [gluL, if_pos c2]
            refine sq ?_
            refine drK (tgk := by simp [tgK, lnRow, Item.cells, cellsL, putL, tg1_i, tg1_b, tg1_n, tg1_o, tg1_w, tg1_p, hep.tg, hip.tg]) 11 [18, 500002, 500001, 500003, 500004, 500005] [(500001, _), (18, _), (500002, _)] [0, 1, 2, 3, 4, 5, 6, 1007, 1008, 2009, 10, 1011] ?_
            iterate 2 (refine dt (hv := by exact sdL) ?_)
            refine dt (hv := by exact O) ?_
            refine dt (hv := by exact sdFA) ?_
            refine dt (hv := by exact sdL) ?_
            refine dt (hv := by exact sdFA) ?_
            refine dt (hv := by exact sdL) ?_
            refine dsl (hL := by simp [ntL, ntV, nt2, ntK, argL, cellsL, putL, lnRow, Item.cells, nt1_i, nt1_b, nt1_n, nt1_w, nt1_p, nt1_o, nt1_pv, nt1_p0, hep.nt, hip.nt, setK, delK, zer]) (hK := by simp [ntL, ntV, nt2, ntK, argL, cellsL, putL, lnRow, Item.cells, nt1_i, nt1_b, nt1_n, nt1_w, nt1_p, nt1_o, nt1_pv, nt1_p0, hep.nt, hip.nt, setK, delK, zer]) ?_
            first | refine dapN (news := [_]) 500013 true (hL := by simp [ntL, ntV, nt2, ntK, argL, cellsL, putL, lnRow, Item.cells, nt1_i, nt1_b, nt1_n, nt1_w, nt1_p, nt1_o, nt1_pv, nt1_p0, hep.nt, hip.nt, setK, delK, zer]) (hK := by simp [ntL, ntV, nt2, ntK, argL, cellsL, putL, lnRow, Item.cells, nt1_i, nt1_b, nt1_n, nt1_w, nt1_p, nt1_o, nt1_pv, nt1_p0, hep.nt, hip.nt, setK, delK, zer]) ?_ | refine dapO (news := [_]) 500013 (hL := by simp [ntL, ntV, nt2, ntK, argL, cellsL, putL, lnRow, Item.cells, nt1_i, nt1_b, nt1_n, nt1_w, nt1_p, nt1_o, nt1_pv, nt1_p0, hep.nt, hip.nt, setK, delK, zer]) (hK := by simp [ntL, ntV, nt2, ntK, argL, cellsL, putL, lnRow, Item.cells, nt1_i, nt1_b, nt1_n, nt1_w, nt1_p, nt1_o, nt1_pv, nt1_p0, hep.nt, hip.nt, setK, delK, zer]) ?_
            intro cap94 hc94 hd94
            refine dq (hv := by exact fun _ _ => O) ?_
            refine dt (hv := by exact sdFA) ?_
            refine dso (hkp := by first | exact Kept.all | exact Kept.k0 | exact Kept.kY | exact Kept.kYY | exact Kept.kY3) ?_
            refine dn ?_
            first | refine J.weak (L0 := [(4, _), (12, _), (13, _), (14, _), (15, _), (16, _), (18, _), (77, _), (78, _), (79, _)]) (K0 := [(500013, _), (93, _), (18, _), (500002, _), (500001, _), (500004, _), (500005, _)]) (by exact ⟨rfl, rfl, rfl, rfl, rfl, rfl, rfl, rfl, rfl, rfl, trivial⟩) (by exact ⟨rfl, rfl, rfl, rfl, rfl, rfl, rfl, rfl, rfl, rfl, rfl, rfl, rfl, rfl, trivial⟩) ?_ | refine J.weak (L0 := [(4, _), (12, _), (13, _), (14, _), (15, _), (16, _), (18, _), (77, _), (78, _), (79, _)]) (K0 := [(500013, _), (93, _), (18, _), (500002, _), (500001, _), (500005, _)]) (by exact ⟨rfl, rfl, rfl, rfl, rfl, rfl, rfl, rfl, rfl, rfl, trivial⟩) (by exact ⟨rfl, rfl, rfl, rfl, rfl, rfl, rfl, rfl, rfl, rfl, rfl, rfl, trivial⟩) ?_ | refine J.weak (L0 := [(4, _), (12, _), (13, _), (14, _), (15, _), (16, _), (18, _), (77, _), (78, _), (79, _)]) (K0 := [(500013, _), (93, _), (18, _), (500002, _), (500001, _), (500004, _)]) (by exact ⟨rfl, rfl, rfl, rfl, rfl, rfl, rfl, rfl, rfl, rfl, trivial⟩) (by exact ⟨rfl, rfl, rfl, rfl, rfl, rfl, rfl, rfl, rfl, rfl, rfl, rfl, trivial⟩) ?_ | refine J.weak (L0 := [(4, _), (12, _), (13, _), (14, _), (15, _), (16, _), (18, _), (77, _), (78, _), (79, _)]) (K0 := [(500013, _), (93, _), (18, _), (500002, _), (500001, _)]) (by exact ⟨rfl, rfl, rfl, rfl, rfl, rfl, rfl, rfl, rfl, rfl, trivial⟩) (by exact ⟨rfl, rfl, rfl, rfl, rfl, rfl, rfl, rfl, rfl, rfl, trivial⟩) ?_
            refine drK (tgk := by simp [tgK, lnRow, Item.cells, cellsL, putL, tg1_i, tg1_b, tg1_n, tg1_o, tg1_w, tg1_p, hep.tg, hip.tg]) 12 [500013, 93, 18, 500002, 500001, 500004, 500005] [(18, _)] [0, 1, 2, 5, 6, 7, 5006] ?_
            refine dt (hv := by exact O) ?_
            refine dt (hv := by exact sdFA) ?_
            refine dt (hv := by exact sdL) ?_
            refine dt (hv := by exact O) ?_
            refine dt (hv := by exact sdFA) ?_
            refine dt (hv := by exact sdL) ?_
            refine JD.alt (i := 3) (j := 8) [5005] [1003, 1004, 1009, 10, 11] ?_ ?_
            ·refine jsl (hkp := by first | exact Kept.all | exact Kept.k0 | exact Kept.kY | exact Kept.kYY | exact Kept.kY3) (hL := by simp [ntL, ntV, nt2, ntK, argL, cellsL, putL, lnRow, Item.cells, nt1_i, nt1_b, nt1_n, nt1_w, nt1_p, nt1_o, nt1_pv, nt1_p0, hep.nt, hip.nt, setK, delK, zer]) (hK := by simp [ntL, ntV, nt2, ntK, argL, cellsL, putL, lnRow, Item.cells, nt1_i, nt1_b, nt1_n, nt1_w, nt1_p, nt1_o, nt1_pv, nt1_p0, hep.nt, hip.nt, setK, delK, zer]) ?_
             refine JD.alt (i := 4) (j := 8) [1008, 1009, 10, 11] [1004, 1009, 10, 11] ?_ ?_
             ·first | refine japN (news := [_]) 500014 true (hL := by simp [ntL, ntV, nt2, ntK, argL, cellsL, putL, lnRow, Item.cells, nt1_i, nt1_b, nt1_n, nt1_w, nt1_p, nt1_o, nt1_pv, nt1_p0, hep.nt, hip.nt, setK, delK, zer]) (hK := by simp [ntL, ntV, nt2, ntK, argL, cellsL, putL, lnRow, Item.cells, nt1_i, nt1_b, nt1_n, nt1_w, nt1_p, nt1_o, nt1_pv, nt1_p0, hep.nt, hip.nt, setK, delK, zer]) ?_ | refine japO (news := [_]) 500014 (hL := by simp [ntL, ntV, nt2, ntK, argL, cellsL, putL, lnRow, Item.cells, nt1_i, nt1_b, nt1_n, nt1_w, nt1_p, nt1_o, nt1_pv, nt1_p0, hep.nt, hip.nt, setK, delK, zer]) (hK := by simp [ntL, ntV, nt2, ntK, argL, cellsL, putL, lnRow, Item.cells, nt1_i, nt1_b, nt1_n, nt1_w, nt1_p, nt1_o, nt1_pv, nt1_p0, hep.nt, hip.nt, setK, delK, zer]) ?_
              intro cap101 hc101 hd101
              refine dsl (hL := by simp [ntL, ntV, nt2, ntK, argL, cellsL, putL, lnRow, Item.cells, nt1_i, nt1_b, nt1_n, nt1_w, nt1_p, nt1_o, nt1_pv, nt1_p0, hep.nt, hip.nt, setK, delK, zer]) (hK := by simp [ntL, ntV, nt2, ntK, argL, cellsL, putL, lnRow, Item.cells, nt1_i, nt1_b, nt1_n, nt1_w, nt1_p, nt1_o, nt1_pv, nt1_p0, hep.nt, hip.nt, setK, delK, zer]) ?_
              first | refine dapN (news := [_]) 500015 true (hL := by simp [ntL, ntV, nt2, ntK, argL, cellsL, putL, lnRow, Item.cells, nt1_i, nt1_b, nt1_n, nt1_w, nt1_p, nt1_o, nt1_pv, nt1_p0, hep.nt, hip.nt, setK, delK, zer]) (hK := by simp [ntL, ntV, nt2, ntK, argL, cellsL, putL, lnRow, Item.cells, nt1_i, nt1_b, nt1_n, nt1_w, nt1_p, nt1_o, nt1_pv, nt1_p0, hep.nt, hip.nt, setK, delK, zer]) ?_ | refine dapO (news := [_]) 500015 (hL := by simp [ntL, ntV, nt2, ntK, argL, cellsL, putL, lnRow, Item.cells, nt1_i, nt1_b, nt1_n, nt1_w, nt1_p, nt1_o, nt1_pv, nt1_p0, hep.nt, hip.nt, setK, delK, zer]) (hK := by simp [ntL, ntV, nt2, ntK, argL, cellsL, putL, lnRow, Item.cells, nt1_i, nt1_b, nt1_n, nt1_w, nt1_p, nt1_o, nt1_pv, nt1_p0, hep.nt, hip.nt, setK, delK, zer]) ?_
              intro cap106 hc106 hd106
              iterate 2 (refine dt (hv := by exact O) ?_)
              refine dn ?_
              refine bk ?_
              refine rg ?_
              refine JL.retagC (A := 500002) (t := 500013) (u := 500003) (off := 12) [(79, _), (14, _), (15, _), (16, _), (4, _), (12, _), (13, _), (77, _), (78, _)] [(500014, _), (500015, _), (500001, _)] ?_ (hK := by simp [ntL, ntV, nt2, ntK, argL, cellsL, putL, lnRow, Item.cells, nt1_i, nt1_b, nt1_n, nt1_w, nt1_p, nt1_o, nt1_pv, nt1_p0, hep.nt, hip.nt, setK, delK, zer])
              refine JL.retagS (d := 15) (t := 500014) (u := 500004) [(79, _), (14, _), (16, _), (4, _), (12, _), (13, _), (77, _), (78, _)] [(500003, _), (500002, _), (500015, _), (500001, _)] ?_ (hK := by simp [ntL, ntV, nt2, ntK, argL, cellsL, putL, lnRow, Item.cells, nt1_i, nt1_b, nt1_n, nt1_w, nt1_p, nt1_o, nt1_pv, nt1_p0, hep.nt, hip.nt, setK, delK, zer])
              refine JL.retagS (d := 16) (t := 500015) (u := 500005) [(15, _), (79, _), (14, _), (4, _), (12, _), (13, _), (77, _), (78, _)] [(500004, _), (500003, _), (500002, _), (500001, _)] ?_ (hK := by simp [ntL, ntV, nt2, ntK, argL, cellsL, putL, lnRow, Item.cells, nt1_i, nt1_b, nt1_n, nt1_w, nt1_p, nt1_o, nt1_pv, nt1_p0, hep.nt, hip.nt, setK, delK, zer])
              refine st (h := sdA) ?_
              refine st (h := O) ?_
              refine nl ?_
              refine bk4 (some (_, _, _)) (_) (d + 1) ((_, _, _)) (by exact ⟨rfl, rfl, rfl, trivial⟩) (by exact ⟨rfl, rfl, rfl, rfl, rfl, rfl, trivial⟩) (by exact (by repeat' first | exact trivial | refine And.intro rfl ?_)) ?_ ?_
              · omega
              · refine ⟨by omega, by rw [g1, List.length_append, ← hm]; show _ = m + 1; omega, by simp only [apB, Option.map_some, sn2, sn3]; omega, by simp only [apB, Option.map_some, sn2, sn3]; omega, by simp only [apB, Option.map_some, sn2, sn3]; omega, ?_, ?_, ?_⟩
                · rw [g1, ivs_append, ← hS1]
                  first
                    | rfl
                    | (rw [List.eq_nil_of_length_eq_zero (l := S.1) (by omega)]; rfl)
                · rw [g2, ivs_append, ← hS2]
                  first
                    | rfl
                    | (rw [List.eq_nil_of_length_eq_zero (l := S.2.1) (by omega)]; rfl)
                · rw [g3, ivs_append, ← hS3]
                  first
                    | rfl
                    | (rw [List.eq_nil_of_length_eq_zero (l := S.2.2) (by omega)]; rfl)
             ·refine jsl (hkp := by first | exact Kept.all | exact Kept.k0 | exact Kept.kY | exact Kept.kYY | exact Kept.kY3) (hL := by simp [ntL, ntV, nt2, ntK, argL, cellsL, putL, lnRow, Item.cells, nt1_i, nt1_b, nt1_n, nt1_w, nt1_p, nt1_o, nt1_pv, nt1_p0, hep.nt, hip.nt, setK, delK, zer]) (hK := by simp [ntL, ntV, nt2, ntK, argL, cellsL, putL, lnRow, Item.cells, nt1_i, nt1_b, nt1_n, nt1_w, nt1_p, nt1_o, nt1_pv, nt1_p0, hep.nt, hip.nt, setK, delK, zer]) ?_
              first | refine dapN (news := [_]) 500014 true (hL := by simp [ntL, ntV, nt2, ntK, argL, cellsL, putL, lnRow, Item.cells, nt1_i, nt1_b, nt1_n, nt1_w, nt1_p, nt1_o, nt1_pv, nt1_p0, hep.nt, hip.nt, setK, delK, zer]) (hK := by simp [ntL, ntV, nt2, ntK, argL, cellsL, putL, lnRow, Item.cells, nt1_i, nt1_b, nt1_n, nt1_w, nt1_p, nt1_o, nt1_pv, nt1_p0, hep.nt, hip.nt, setK, delK, zer]) ?_ | refine dapO (news := [_]) 500014 (hL := by simp [ntL, ntV, nt2, ntK, argL, cellsL, putL, lnRow, Item.cells, nt1_i, nt1_b, nt1_n, nt1_w, nt1_p, nt1_o, nt1_pv, nt1_p0, hep.nt, hip.nt, setK, delK, zer]) (hK := by simp [ntL, ntV, nt2, ntK, argL, cellsL, putL, lnRow, Item.cells, nt1_i, nt1_b, nt1_n, nt1_w, nt1_p, nt1_o, nt1_pv, nt1_p0, hep.nt, hip.nt, setK, delK, zer]) ?_
              intro cap101 hc101 hd101
              first | refine dapN (news := [_]) 500015 true (hL := by simp [ntL, ntV, nt2, ntK, argL, cellsL, putL, lnRow, Item.cells, nt1_i, nt1_b, nt1_n, nt1_w, nt1_p, nt1_o, nt1_pv, nt1_p0, hep.nt, hip.nt, setK, delK, zer]) (hK := by simp [ntL, ntV, nt2, ntK, argL, cellsL, putL, lnRow, Item.cells, nt1_i, nt1_b, nt1_n, nt1_w, nt1_p, nt1_o, nt1_pv, nt1_p0, hep.nt, hip.nt, setK, delK, zer]) ?_ | refine dapO (news := [_]) 500015 (hL := by simp [ntL, ntV, nt2, ntK, argL, cellsL, putL, lnRow, Item.cells, nt1_i, nt1_b, nt1_n, nt1_w, nt1_p, nt1_o, nt1_pv, nt1_p0, hep.nt, hip.nt, setK, delK, zer]) (hK := by simp [ntL, ntV, nt2, ntK, argL, cellsL, putL, lnRow, Item.cells, nt1_i, nt1_b, nt1_n, nt1_w, nt1_p, nt1_o, nt1_pv, nt1_p0, hep.nt, hip.nt, setK, delK, zer]) ?_
              intro cap106 hc106 hd106
              iterate 2 (refine dt (hv := by exact O) ?_)
              refine dn ?_
              refine bk ?_
              refine rg ?_
              refine JL.retagC (A := 500002) (t := 500013) (u := 500003) (off := 12) [(79, _), (14, _), (15, _), (16, _), (4, _), (12, _), (13, _), (77, _), (78, _)] [(500014, _), (500015, _), (500001, _)] ?_ (hK := by simp [ntL, ntV, nt2, ntK, argL, cellsL, putL, lnRow, Item.cells, nt1_i, nt1_b, nt1_n, nt1_w, nt1_p, nt1_o, nt1_pv, nt1_p0, hep.nt, hip.nt, setK, delK, zer])
              refine JL.retagS (d := 15) (t := 500014) (u := 500004) [(79, _), (14, _), (16, _), (4, _), (12, _), (13, _), (77, _), (78, _)] [(500003, _), (500002, _), (500015, _), (500001, _)] ?_ (hK := by simp [ntL, ntV, nt2, ntK, argL, cellsL, putL, lnRow, Item.cells, nt1_i, nt1_b, nt1_n, nt1_w, nt1_p, nt1_o, nt1_pv, nt1_p0, hep.nt, hip.nt, setK, delK, zer])
              refine JL.retagS (d := 16) (t := 500015) (u := 500005) [(15, _), (79, _), (14, _), (4, _), (12, _), (13, _), (77, _), (78, _)] [(500004, _), (500003, _), (500002, _), (500001, _)] ?_ (hK := by simp [ntL, ntV, nt2, ntK, argL, cellsL, putL, lnRow, Item.cells, nt1_i, nt1_b, nt1_n, nt1_w, nt1_p, nt1_o, nt1_pv, nt1_p0, hep.nt, hip.nt, setK, delK, zer])
              refine st (h := sdA) ?_
              refine st (h := O) ?_
              refine nl ?_
              refine bk4 (some (_, _, _)) (_) (d + 1) ((_, _, _)) (by exact ⟨rfl, rfl, rfl, trivial⟩) (by exact ⟨rfl, rfl, rfl, rfl, rfl, rfl, trivial⟩) (by exact (by repeat' first | exact trivial | refine And.intro rfl ?_)) ?_ ?_
              · omega
              · refine ⟨by omega, by rw [g1, List.length_append, ← hm]; show _ = m + 1; omega, by simp only [apB, Option.map_some, sn2, sn3]; omega, by simp only [apB, Option.map_some, sn2, sn3]; omega, by simp only [apB, Option.map_some, sn2, sn3]; omega, ?_, ?_, ?_⟩
                · rw [g1, ivs_append, ← hS1]
                  first
                    | rfl
                    | (rw [List.eq_nil_of_length_eq_zero (l := S.1) (by omega)]; rfl)
                · rw [g2, ivs_append, ← hS2]
                  first
                    | rfl
                    | (rw [List.eq_nil_of_length_eq_zero (l := S.2.1) (by omega)]; rfl)
                · rw [g3, ivs_append, ← hS3]
                  first
                    | rfl
                    | (rw [List.eq_nil_of_length_eq_zero (l := S.2.2) (by omega)]; rfl)
            ·refine jsl (hkp := by first | exact Kept.all | exact Kept.k0 | exact Kept.kY | exact Kept.kYY | exact Kept.kY3) (hL := by simp [ntL, ntV, nt2, ntK, argL, cellsL, putL, lnRow, Item.cells, nt1_i, nt1_b, nt1_n, nt1_w, nt1_p, nt1_o, nt1_pv, nt1_p0, hep.nt, hip.nt, setK, delK, zer]) (hK := by simp [ntL, ntV, nt2, ntK, argL, cellsL, putL, lnRow, Item.cells, nt1_i, nt1_b, nt1_n, nt1_w, nt1_p, nt1_o, nt1_pv, nt1_p0, hep.nt, hip.nt, setK, delK, zer]) ?_
             refine dsl (hL := by simp [ntL, ntV, nt2, ntK, argL, cellsL, putL, lnRow, Item.cells, nt1_i, nt1_b, nt1_n, nt1_w, nt1_p, nt1_o, nt1_pv, nt1_p0, hep.nt, hip.nt, setK, delK, zer]) (hK := by simp [ntL, ntV, nt2, ntK, argL, cellsL, putL, lnRow, Item.cells, nt1_i, nt1_b, nt1_n, nt1_w, nt1_p, nt1_o, nt1_pv, nt1_p0, hep.nt, hip.nt, setK, delK, zer]) ?_
             first | refine dapN (news := [_]) 500014 true (hL := by simp [ntL, ntV, nt2, ntK, argL, cellsL, putL, lnRow, Item.cells, nt1_i, nt1_b, nt1_n, nt1_w, nt1_p, nt1_o, nt1_pv, nt1_p0, hep.nt, hip.nt, setK, delK, zer]) (hK := by simp [ntL, ntV, nt2, ntK, argL, cellsL, putL, lnRow, Item.cells, nt1_i, nt1_b, nt1_n, nt1_w, nt1_p, nt1_o, nt1_pv, nt1_p0, hep.nt, hip.nt, setK, delK, zer]) ?_ | refine dapO (news := [_]) 500014 (hL := by simp [ntL, ntV, nt2, ntK, argL, cellsL, putL, lnRow, Item.cells, nt1_i, nt1_b, nt1_n, nt1_w, nt1_p, nt1_o, nt1_pv, nt1_p0, hep.nt, hip.nt, setK, delK, zer]) (hK := by simp [ntL, ntV, nt2, ntK, argL, cellsL, putL, lnRow, Item.cells, nt1_i, nt1_b, nt1_n, nt1_w, nt1_p, nt1_o, nt1_pv, nt1_p0, hep.nt, hip.nt, setK, delK, zer]) ?_
             intro cap101 hc101 hd101
             first | refine dapN (news := [_]) 500015 true (hL := by simp [ntL, ntV, nt2, ntK, argL, cellsL, putL, lnRow, Item.cells, nt1_i, nt1_b, nt1_n, nt1_w, nt1_p, nt1_o, nt1_pv, nt1_p0, hep.nt, hip.nt, setK, delK, zer]) (hK := by simp [ntL, ntV, nt2, ntK, argL, cellsL, putL, lnRow, Item.cells, nt1_i, nt1_b, nt1_n, nt1_w, nt1_p, nt1_o, nt1_pv, nt1_p0, hep.nt, hip.nt, setK, delK, zer]) ?_ | refine dapO (news := [_]) 500015 (hL := by simp [ntL, ntV, nt2, ntK, argL, cellsL, putL, lnRow, Item.cells, nt1_i, nt1_b, nt1_n, nt1_w, nt1_p, nt1_o, nt1_pv, nt1_p0, hep.nt, hip.nt, setK, delK, zer]) (hK := by simp [ntL, ntV, nt2, ntK, argL, cellsL, putL, lnRow, Item.cells, nt1_i, nt1_b, nt1_n, nt1_w, nt1_p, nt1_o, nt1_pv, nt1_p0, hep.nt, hip.nt, setK, delK, zer]) ?_
             intro cap106 hc106 hd106
             iterate 2 (refine dt (hv := by exact O) ?_)
             refine dn ?_
             refine bk ?_
             refine rg ?_
             refine JL.retagC (A := 500002) (t := 500013) (u := 500003) (off := 12) [(79, _), (14, _), (15, _), (16, _), (4, _), (12, _), (13, _), (77, _), (78, _)] [(500014, _), (500015, _), (500001, _)] ?_ (hK := by simp [ntL, ntV, nt2, ntK, argL, cellsL, putL, lnRow, Item.cells, nt1_i, nt1_b, nt1_n, nt1_w, nt1_p, nt1_o, nt1_pv, nt1_p0, hep.nt, hip.nt, setK, delK, zer])
             refine JL.retagS (d := 15) (t := 500014) (u := 500004) [(79, _), (14, _), (16, _), (4, _), (12, _), (13, _), (77, _), (78, _)] [(500003, _), (500002, _), (500015, _), (500001, _)] ?_ (hK := by simp [ntL, ntV, nt2, ntK, argL, cellsL, putL, lnRow, Item.cells, nt1_i, nt1_b, nt1_n, nt1_w, nt1_p, nt1_o, nt1_pv, nt1_p0, hep.nt, hip.nt, setK, delK, zer])
             refine JL.retagS (d := 16) (t := 500015) (u := 500005) [(15, _), (79, _), (14, _), (4, _), (12, _), (13, _), (77, _), (78, _)] [(500004, _), (500003, _), (500002, _), (500001, _)] ?_ (hK := by simp [ntL, ntV, nt2, ntK, argL, cellsL, putL, lnRow, Item.cells, nt1_i, nt1_b, nt1_n, nt1_w, nt1_p, nt1_o, nt1_pv, nt1_p0, hep.nt, hip.nt, setK, delK, zer])
             refine st (h := sdA) ?_
             refine st (h := O) ?_
             refine nl ?_
             refine bk4 (some (_, _, _)) (_) (d + 1) ((_, _, _)) (by exact ⟨rfl, rfl, rfl, trivial⟩) (by exact ⟨rfl, rfl, rfl, rfl, rfl, rfl, trivial⟩) (by exact (by repeat' first | exact trivial | refine And.intro rfl ?_)) ?_ ?_
             · omega
             · refine ⟨by omega, by rw [g1, List.length_append, ← hm]; show _ = m + 1; omega, by simp only [apB, Option.map_some, sn2, sn3]; omega, by simp only [apB, Option.map_some, sn2, sn3]; omega, by simp only [apB, Option.map_some, sn2, sn3]; omega, ?_, ?_, ?_⟩
               · rw [g1, ivs_append, ← hS1]
                 first
                   | rfl
                   | (rw [List.eq_nil_of_length_eq_zero (l := S.1) (by omega)]; rfl)
               · rw [g2, ivs_append, ← hS2]
                 first
                   | rfl
                   | (rw [List.eq_nil_of_length_eq_zero (l := S.2.1) (by omega)]; rfl)
               · rw [g3, ivs_append, ← hS3]
                 first
                   | rfl
                   | (rw [List.eq_nil_of_length_eq_zero (l := S.2.2) (by omega)]; rfl)
           ·have g1 : gluL Item.width l k (d + 1) = gluL Item.width l k d := by rw [gluL, if_neg c2, List.append_nil]
            have g2 : gluL Item.stretch l k (d + 1) = gluL Item.stretch l k d := by rw [gluL, if_neg c2, List.append_nil]
            have g3 : gluL Item.shrink l k (d + 1) = gluL Item.shrink l k d := by rw [gluL, if_neg c2, List.append_nil]
            refine sk ?_
            refine bk ?_
            refine rg ?_
            refine st (h := sdA) ?_
            refine st (h := O) ?_
            refine nl ?_
            refine bk4 (ocap) (m) (d + 1) (S) (by exact ⟨rfl, rfl, rfl, trivial⟩) (by exact ⟨rfl, rfl, rfl, rfl, rfl, rfl, trivial⟩) (by exact (by repeat' first | exact trivial | refine And.intro rfl ?_)) ?_ ?_
            · omega
            · exact ⟨by omega, by rw [g1]; exact hm, by simp only [ocap, apB, Option.map_some, Option.map_none]; omega, by simp only [ocap, apB, Option.map_some, Option.map_none]; omega, by simp only [ocap, apB, Option.map_some, Option.map_none]; omega, by rw [g1]; exact hS1, by rw [g2]; exact hS2, by rw [g3]; exact hS3⟩
          ·obtain rfl : d = b - k := by omega
           subst hfm
           have l1 : m = (glW l a1 b).length := hm
           have l2 : m = (glY l a1 b).length := l2
           have l3 : m = (glZ l a1 b).length := l3
           obtain ⟨S1, S2, S3⟩ := S
           obtain rfl : S1 = ivs (glW l a1 b) := hS1
           obtain rfl : S2 = ivs (glY l a1 b) := hS2
           obtain rfl : S3 = ivs (glZ l a1 b) := hS3
           have yb : 0 ≤ mY l a1 b ∧ mY l a1 b ≤ m * 1073741824 := by rw [l2, ← eY]; exact bY
           have zb : 0 ≤ mZ l a1 b ∧ mZ l a1 b ≤ m * 1073741824 := by rw [l3, ← eZ]; exact bZ
           have hm1 : m ≤ 1024 := by omega
           have plv : plain1 (.slice (some ⟨vb, vo + fromA l a1 b * 11, none⟩) (b - fromA l a1 b) (vc - fromA l a1 b)) = true := rfl
           have pg := hei.pl1
           refine ex ?_
           refine sq ?_
           refine rg ?_
           iterate 2 (refine st (h := O) ?_)
           refine nl ?_
           iterate 2 (refine sq ?_)
           refine rg ?_
           refine st (h := sdL) ?_
           refine st (h := O) ?_
           refine st (h := sdFA) ?_
           refine st (h := sdL) ?_
           refine st (h := O) ?_
           refine nl ?_
           refine bl ?_
           refine sq ?_
           refine rg ?_
           iterate 3 (refine st (h := O) ?_)
           refine gD (fun g116 => ?_) (fun g116 => ?_)
           ·refine sg (h := O) ?_
            refine sg (h := O) ?_
            iterate 2 (refine st (h := O) ?_)
            refine gD (fun g120 => ?_) (fun g120 => ?_)
            ·refine sg (h := O) ?_
             refine sg (h := O) ?_
             iterate 2 (refine st (h := O) ?_)
             refine nl ?_
             refine cD (fun c3 => ?_) (fun c3 => ?_)
             ·try (exfalso; omega)
              all_goals
                refine rg ?_
                iterate 3 (refine st (h := O) ?_)
                refine clA [500001, 500002, 500003, 500004] [500001, 500002, 500003, 500004] [500001, 500002, 500003, 500004] [(14, _)] [(500001, _), (500002, _), (500003, _), (500004, _)] [] (h := by exact fun ι hV hl => give_n _ (width - mW l a1 b) 1 (glW l a1 b) (glY l a1 b) (.slice (some ⟨vb, vo + fromA l a1 b * 11, none⟩) (b - fromA l a1 b) (vc - fromA l a1 b)) (at_ l b) (.slice ea (at_ l b).glyphs.length ec) (width - mW l a1 b) false ag _ _ _ _ m l1 l2 (by unfold i64ok; omega) oW hm1 (.inl rfl) plv pg) ?_
                intro v1 Y1 K1 hQ1 hp1 hN1
                obtain ⟨rfl, rfl⟩ := hQ1
                refine nl ?_
                refine bk ?_
                refine sq ?_
                refine rg ?_
                refine st (h := sdL) ?_
                refine st (h := O) ?_
                refine nl ?_
                repeat refine J.dropF ?_
                have hlv := RItems.part (n := b - fromA l a1 b) h63 hRI hfl (by omega) (vc - fromA l a1 b) rfl
                first
                  | (refine J.weak (L0 := [(10, _)]) (K0 := [(500002, _), (500003, _)]) (by exact ⟨rfl, trivial⟩) (by exact ⟨rfl, rfl, rfl, rfl, trivial⟩) ?_
                     refine rtX fun ι hV => ?_
                     first
                       | rw [glueD_1 (by omega) g120 (by omega)]
                       | rw [glueD_2 (by omega)]
                       | rw [glueD_D (by omega) (by omega)]
                     dsimp only
                     exact RLn.of (List.mem_map.2 ⟨_, List.mem_cons_self, rfl⟩) hlv heib (by first | (rw [giveD_len, ← l1]; rfl) | (rw [← l1]; rfl)) (fun G hG => hG.ixq (List.mem_map.2 ⟨_, List.mem_cons_of_mem _ List.mem_cons_self, rfl⟩) rfl (by first | (rw [giveD_len]; omega) | omega)) (by first | (rw [giveD_len, ← l1]; omega) | (rw [← l1]; omega)))
                  | (refine J.weak (L0 := [(10, _)]) (K0 := [(500002, _)]) (by exact ⟨rfl, trivial⟩) (by exact ⟨rfl, rfl, trivial⟩) ?_
                     refine rtX fun ι hV => ?_
                     have hw0 : glW l a1 b = [] := List.eq_nil_of_length_eq_zero (by omega)
                     first
                       | rw [glueD_2 (by omega), hw0, giveD_nil]
                       | rw [glueD_D (by omega) (by omega), hw0]
                     dsimp only
                     exact RLn.of (List.mem_map.2 ⟨_, List.mem_cons_self, rfl⟩) hlv heib rfl (fun _ _ => RIx.none _) (Nat.le_refl _))
             ·refine sq ?_
              refine rg ?_
              iterate 3 (refine st (h := O) ?_)
              refine nl ?_
              refine cD (fun c4 => ?_) (fun c4 => ?_)
              ·try (exfalso; omega)
               all_goals
                 refine sq ?_
                 refine rg ?_
                 refine st (h := sdL) ?_
                 refine st (h := O) ?_
                 refine st (h := sdN) ?_
                 iterate 3 (refine st (h := O) ?_)
                 refine st (h := sdFA) ?_
                 refine so ?_
                 refine nl ?_
                 refine rg ?_
                 iterate 2 (refine st (h := O) ?_)
                 refine st (h := sdN) ?_
                 iterate 3 (refine st (h := O) ?_)
                 first
                   | (refine JL.retagS (d := 143) (t := 500005) (u := 500004) [(14, _), (138, _), (142, _)] [(500001, _), (500002, _), (500003, _)] ?_ (hK := by simp [ntL, ntV, nt2, ntK, argL, cellsL, putL, lnRow, Item.cells, nt1_i, nt1_b, nt1_n, nt1_w, nt1_p, nt1_o, nt1_pv, nt1_p0, hep.nt, setK, delK, zer])
                      refine clA [500001, 500002, 500003, 500004] [500001, 500002, 500003, 500004] [500001, 500002, 500003, 500004] [(14, _)] [(500001, _), (500002, _), (500003, _), (500004, _)] [] (h := by exact fun ι hV hl => give_n _ (min (-(width - mW l a1 b)) (mZ l a1 b)) (-1) (glW l a1 b) (glZ l a1 b) (.slice (some ⟨vb, vo + fromA l a1 b * 11, none⟩) (b - fromA l a1 b) (vc - fromA l a1 b)) (at_ l b) (.slice ea (at_ l b).glyphs.length ec) (width - mW l a1 b) (decide (mZ l a1 b < -(width - mW l a1 b))) ag _ _ _ _ m l1 l3 (by unfold i64ok; omega) oW hm1 (.inr rfl) plv pg) ?_
                      intro v1 Y1 K1 hQ1 hp1 hN1
                      obtain ⟨rfl, rfl⟩ := hQ1)
                   | (refine clA [] [] [500001, 500002] [(14, _)] [] [(500001, _), (500002, _)] (hK2 := by simp [tgK, lnRow, Item.cells, cellsL, putL, tg1_i, tg1_b, tg1_n, tg1_o, tg1_w, tg1_p, hep.tg]) (h := by exact fun ι hV hl => give0_CA _ (min (-(width - mW l a1 b)) (mZ l a1 b)) (-1) _ (by unfold i64ok; omega)) ?_
                      intro v1 Y1 K1 hQ1 hp1 hN1
                      obtain ⟨rfl, rfl⟩ := hQ1)
                 refine nl ?_
                 refine bk ?_
                 refine sq ?_
                 refine rg ?_
                 refine st (h := sdL) ?_
                 refine st (h := O) ?_
                 refine nl ?_
                 repeat refine J.dropF ?_
                 have hlv := RItems.part (n := b - fromA l a1 b) h63 hRI hfl (by omega) (vc - fromA l a1 b) rfl
                 first
                   | (refine J.weak (L0 := [(10, _)]) (K0 := [(500002, _), (500003, _)]) (by exact ⟨rfl, trivial⟩) (by exact ⟨rfl, rfl, rfl, rfl, trivial⟩) ?_
                      refine rtX fun ι hV => ?_
                      first
                        | rw [glueD_1 (by omega) g120 (by omega)]
                        | rw [glueD_2 (by omega)]
                        | rw [glueD_D (by omega) (by omega)]
                      dsimp only
                      exact RLn.of (List.mem_map.2 ⟨_, List.mem_cons_self, rfl⟩) hlv heib (by first | (rw [giveD_len, ← l1]; rfl) | (rw [← l1]; rfl)) (fun G hG => hG.ixq (List.mem_map.2 ⟨_, List.mem_cons_of_mem _ List.mem_cons_self, rfl⟩) rfl (by first | (rw [giveD_len]; omega) | omega)) (by first | (rw [giveD_len, ← l1]; omega) | (rw [← l1]; omega)))
                   | (refine J.weak (L0 := [(10, _)]) (K0 := [(500002, _)]) (by exact ⟨rfl, trivial⟩) (by exact ⟨rfl, rfl, trivial⟩) ?_
                      refine rtX fun ι hV => ?_
                      have hw0 : glW l a1 b = [] := List.eq_nil_of_length_eq_zero (by omega)
                      first
                        | rw [glueD_2 (by omega), hw0, giveD_nil]
                        | rw [glueD_D (by omega) (by omega), hw0]
                      dsimp only
                      exact RLn.of (List.mem_map.2 ⟨_, List.mem_cons_self, rfl⟩) hlv heib rfl (fun _ _ => RIx.none _) (Nat.le_refl _))
              ·refine sk ?_
               refine bk ?_
               refine sq ?_
               refine rg ?_
               refine st (h := sdL) ?_
               refine st (h := O) ?_
               refine nl ?_
               repeat refine J.dropF ?_
               have hlv := RItems.part (n := b - fromA l a1 b) h63 hRI hfl (by omega) (vc - fromA l a1 b) rfl
               first
                 | (refine J.weak (L0 := [(10, _)]) (K0 := [(500002, _), (500003, _)]) (by exact ⟨rfl, trivial⟩) (by exact ⟨rfl, rfl, rfl, rfl, trivial⟩) ?_
                    refine rtX fun ι hV => ?_
                    first
                      | rw [glueD_1 (by omega) g120 (by omega)]
                      | rw [glueD_2 (by omega)]
                      | rw [glueD_D (by omega) (by omega)]
                    dsimp only
                    exact RLn.of (List.mem_map.2 ⟨_, List.mem_cons_self, rfl⟩) hlv heib (by first | (rw [giveD_len, ← l1]; rfl) | (rw [← l1]; rfl)) (fun G hG => hG.ixq (List.mem_map.2 ⟨_, List.mem_cons_of_mem _ List.mem_cons_self, rfl⟩) rfl (by first | (rw [giveD_len]; omega) | omega)) (by first | (rw [giveD_len, ← l1]; omega) | (rw [← l1]; omega)))
                 | (refine J.weak (L0 := [(10, _)]) (K0 := [(500002, _)]) (by exact ⟨rfl, trivial⟩) (by exact ⟨rfl, rfl, trivial⟩) ?_
                    refine rtX fun ι hV => ?_
                    have hw0 : glW l a1 b = [] := List.eq_nil_of_length_eq_zero (by omega)
                    first
                      | rw [glueD_2 (by omega), hw0, giveD_nil]
                      | rw [glueD_D (by omega) (by omega), hw0]
                    dsimp only
                    exact RLn.of (List.mem_map.2 ⟨_, List.mem_cons_self, rfl⟩) hlv heib rfl (fun _ _ => RIx.none _) (Nat.le_refl _))
            ·refine sp ?_
             refine sp ?_
             iterate 2 (refine st (h := O) ?_)
             refine nl ?_
             refine cF ?_
             refine sq ?_
             refine rg ?_
             iterate 3 (refine st (h := O) ?_)
             refine nl ?_
             refine cD (fun c4 => ?_) (fun c4 => ?_)
             ·try (exfalso; omega)
              all_goals
                refine sq ?_
                refine rg ?_
                refine st (h := sdL) ?_
                refine st (h := O) ?_
                refine st (h := sdN) ?_
                iterate 3 (refine st (h := O) ?_)
                refine st (h := sdFA) ?_
                refine so ?_
                refine nl ?_
                refine rg ?_
                iterate 2 (refine st (h := O) ?_)
                refine st (h := sdN) ?_
                iterate 3 (refine st (h := O) ?_)
                first
                  | (refine JL.retagS (d := 143) (t := 500005) (u := 500004) [(14, _), (138, _), (142, _)] [(500001, _), (500002, _), (500003, _)] ?_ (hK := by simp [ntL, ntV, nt2, ntK, argL, cellsL, putL, lnRow, Item.cells, nt1_i, nt1_b, nt1_n, nt1_w, nt1_p, nt1_o, nt1_pv, nt1_p0, hep.nt, setK, delK, zer])
                     refine clA [500001, 500002, 500003, 500004] [500001, 500002, 500003, 500004] [500001, 500002, 500003, 500004] [(14, _)] [(500001, _), (500002, _), (500003, _), (500004, _)] [] (h := by exact fun ι hV hl => give_n _ (min (-(width - mW l a1 b)) (mZ l a1 b)) (-1) (glW l a1 b) (glZ l a1 b) (.slice (some ⟨vb, vo + fromA l a1 b * 11, none⟩) (b - fromA l a1 b) (vc - fromA l a1 b)) (at_ l b) (.slice ea (at_ l b).glyphs.length ec) (width - mW l a1 b) (decide (mZ l a1 b < -(width - mW l a1 b))) ag _ _ _ _ m l1 l3 (by unfold i64ok; omega) oW hm1 (.inr rfl) plv pg) ?_
                     intro v1 Y1 K1 hQ1 hp1 hN1
                     obtain ⟨rfl, rfl⟩ := hQ1)
                  | (refine clA [] [] [500001, 500002] [(14, _)] [] [(500001, _), (500002, _)] (hK2 := by simp [tgK, lnRow, Item.cells, cellsL, putL, tg1_i, tg1_b, tg1_n, tg1_o, tg1_w, tg1_p, hep.tg]) (h := by exact fun ι hV hl => give0_CA _ (min (-(width - mW l a1 b)) (mZ l a1 b)) (-1) _ (by unfold i64ok; omega)) ?_
                     intro v1 Y1 K1 hQ1 hp1 hN1
                     obtain ⟨rfl, rfl⟩ := hQ1)
                refine nl ?_
                refine bk ?_
                refine sq ?_
                refine rg ?_
                refine st (h := sdL) ?_
                refine st (h := O) ?_
                refine nl ?_
                repeat refine J.dropF ?_
                have hlv := RItems.part (n := b - fromA l a1 b) h63 hRI hfl (by omega) (vc - fromA l a1 b) rfl
                first
                  | (refine J.weak (L0 := [(10, _)]) (K0 := [(500002, _), (500003, _)]) (by exact ⟨rfl, trivial⟩) (by exact ⟨rfl, rfl, rfl, rfl, trivial⟩) ?_
                     refine rtX fun ι hV => ?_
                     first
                       | rw [glueD_1 (by omega) g120 (by omega)]
                       | rw [glueD_2 (by omega)]
                       | rw [glueD_D (by omega) (by omega)]
                     dsimp only
                     exact RLn.of (List.mem_map.2 ⟨_, List.mem_cons_self, rfl⟩) hlv heib (by first | (rw [giveD_len, ← l1]; rfl) | (rw [← l1]; rfl)) (fun G hG => hG.ixq (List.mem_map.2 ⟨_, List.mem_cons_of_mem _ List.mem_cons_self, rfl⟩) rfl (by first | (rw [giveD_len]; omega) | omega)) (by first | (rw [giveD_len, ← l1]; omega) | (rw [← l1]; omega)))
                  | (refine J.weak (L0 := [(10, _)]) (K0 := [(500002, _)]) (by exact ⟨rfl, trivial⟩) (by exact ⟨rfl, rfl, trivial⟩) ?_
                     refine rtX fun ι hV => ?_
                     have hw0 : glW l a1 b = [] := List.eq_nil_of_length_eq_zero (by omega)
                     first
                       | rw [glueD_2 (by omega), hw0, giveD_nil]
                       | rw [glueD_D (by omega) (by omega), hw0]
                     dsimp only
                     exact RLn.of (List.mem_map.2 ⟨_, List.mem_cons_self, rfl⟩) hlv heib rfl (fun _ _ => RIx.none _) (Nat.le_refl _))
             ·refine sk ?_
              refine bk ?_
              refine sq ?_
              refine rg ?_
              refine st (h := sdL) ?_
              refine st (h := O) ?_
              refine nl ?_
              repeat refine J.dropF ?_
              have hlv := RItems.part (n := b - fromA l a1 b) h63 hRI hfl (by omega) (vc - fromA l a1 b) rfl
              first
                | (refine J.weak (L0 := [(10, _)]) (K0 := [(500002, _), (500003, _)]) (by exact ⟨rfl, trivial⟩) (by exact ⟨rfl, rfl, rfl, rfl, trivial⟩) ?_
                   refine rtX fun ι hV => ?_
                   first
                     | rw [glueD_1 (by omega) g120 (by omega)]
                     | rw [glueD_2 (by omega)]
                     | rw [glueD_D (by omega) (by omega)]
                   dsimp only
                   exact RLn.of (List.mem_map.2 ⟨_, List.mem_cons_self, rfl⟩) hlv heib (by first | (rw [giveD_len, ← l1]; rfl) | (rw [← l1]; rfl)) (fun G hG => hG.ixq (List.mem_map.2 ⟨_, List.mem_cons_of_mem _ List.mem_cons_self, rfl⟩) rfl (by first | (rw [giveD_len]; omega) | omega)) (by first | (rw [giveD_len, ← l1]; omega) | (rw [← l1]; omega)))
                | (refine J.weak (L0 := [(10, _)]) (K0 := [(500002, _)]) (by exact ⟨rfl, trivial⟩) (by exact ⟨rfl, rfl, trivial⟩) ?_
                   refine rtX fun ι hV => ?_
                   have hw0 : glW l a1 b = [] := List.eq_nil_of_length_eq_zero (by omega)
                   first
                     | rw [glueD_2 (by omega), hw0, giveD_nil]
                     | rw [glueD_D (by omega) (by omega), hw0]
                   dsimp only
                   exact RLn.of (List.mem_map.2 ⟨_, List.mem_cons_self, rfl⟩) hlv heib rfl (fun _ _ => RIx.none _) (Nat.le_refl _))
           ·refine sp ?_
            refine sp ?_
            iterate 2 (refine st (h := O) ?_)
            iterate 2 (refine sp ?_)
            iterate 2 (refine st (h := O) ?_)
            refine nl ?_
            refine cF ?_
            refine sq ?_
            refine rg ?_
            iterate 3 (refine st (h := O) ?_)
            refine nl ?_
            refine cD (fun c4 => ?_) (fun c4 => ?_)
            ·try (exfalso; omega)
             all_goals
               refine sq ?_
               refine rg ?_
               refine st (h := sdL) ?_
               refine st (h := O) ?_
               refine st (h := sdN) ?_
               iterate 3 (refine st (h := O) ?_)
               refine st (h := sdFA) ?_
               refine so ?_
               refine nl ?_
               refine rg ?_
               iterate 2 (refine st (h := O) ?_)
               refine st (h := sdN) ?_
               iterate 3 (refine st (h := O) ?_)
               first
                 | (refine JL.retagS (d := 143) (t := 500005) (u := 500004) [(14, _), (138, _), (142, _)] [(500001, _), (500002, _), (500003, _)] ?_ (hK := by simp [ntL, ntV, nt2, ntK, argL, cellsL, putL, lnRow, Item.cells, nt1_i, nt1_b, nt1_n, nt1_w, nt1_p, nt1_o, nt1_pv, nt1_p0, hep.nt, setK, delK, zer])
                    refine clA [500001, 500002, 500003, 500004] [500001, 500002, 500003, 500004] [500001, 500002, 500003, 500004] [(14, _)] [(500001, _), (500002, _), (500003, _), (500004, _)] [] (h := by exact fun ι hV hl => give_n _ (min (-(width - mW l a1 b)) (mZ l a1 b)) (-1) (glW l a1 b) (glZ l a1 b) (.slice (some ⟨vb, vo + fromA l a1 b * 11, none⟩) (b - fromA l a1 b) (vc - fromA l a1 b)) (at_ l b) (.slice ea (at_ l b).glyphs.length ec) (width - mW l a1 b) (decide (mZ l a1 b < -(width - mW l a1 b))) ag _ _ _ _ m l1 l3 (by unfold i64ok; omega) oW hm1 (.inr rfl) plv pg) ?_
                    intro v1 Y1 K1 hQ1 hp1 hN1
                    obtain ⟨rfl, rfl⟩ := hQ1)
                 | (refine clA [] [] [500001, 500002] [(14, _)] [] [(500001, _), (500002, _)] (hK2 := by simp [tgK, lnRow, Item.cells, cellsL, putL, tg1_i, tg1_b, tg1_n, tg1_o, tg1_w, tg1_p, hep.tg]) (h := by exact fun ι hV hl => give0_CA _ (min (-(width - mW l a1 b)) (mZ l a1 b)) (-1) _ (by unfold i64ok; omega)) ?_
                    intro v1 Y1 K1 hQ1 hp1 hN1
                    obtain ⟨rfl, rfl⟩ := hQ1)
               refine nl ?_
               refine bk ?_
               refine sq ?_
               refine rg ?_
               refine st (h := sdL) ?_
               refine st (h := O) ?_
               refine nl ?_
               repeat refine J.dropF ?_
               have hlv := RItems.part (n := b - fromA l a1 b) h63 hRI hfl (by omega) (vc - fromA l a1 b) rfl
               first
                 | (refine J.weak (L0 := [(10, _)]) (K0 := [(500002, _), (500003, _)]) (by exact ⟨rfl, trivial⟩) (by exact ⟨rfl, rfl, rfl, rfl, trivial⟩) ?_
                    refine rtX fun ι hV => ?_
                    first
                      | rw [glueD_1 (by omega) g120 (by omega)]
                      | rw [glueD_2 (by omega)]
                      | rw [glueD_D (by omega) (by omega)]
                    dsimp only
                    exact RLn.of (List.mem_map.2 ⟨_, List.mem_cons_self, rfl⟩) hlv heib (by first | (rw [giveD_len, ← l1]; rfl) | (rw [← l1]; rfl)) (fun G hG => hG.ixq (List.mem_map.2 ⟨_, List.mem_cons_of_mem _ List.mem_cons_self, rfl⟩) rfl (by first | (rw [giveD_len]; omega) | omega)) (by first | (rw [giveD_len, ← l1]; omega) | (rw [← l1]; omega)))
                 | (refine J.weak (L0 := [(10, _)]) (K0 := [(500002, _)]) (by exact ⟨rfl, trivial⟩) (by exact ⟨rfl, rfl, trivial⟩) ?_
                    refine rtX fun ι hV => ?_
                    have hw0 : glW l a1 b = [] := List.eq_nil_of_length_eq_zero (by omega)
                    first
                      | rw [glueD_2 (by omega), hw0, giveD_nil]
                      | rw [glueD_D (by omega) (by omega), hw0]
                    dsimp only
                    exact RLn.of (List.mem_map.2 ⟨_, List.mem_cons_self, rfl⟩) hlv heib rfl (fun _ _ => RIx.none _) (Nat.le_refl _))
            ·refine sk ?_
             refine bk ?_
             refine sq ?_
             refine rg ?_
             refine st (h := sdL) ?_
             refine st (h := O) ?_
             refine nl ?_
             repeat refine J.dropF ?_
             have hlv := RItems.part (n := b - fromA l a1 b) h63 hRI hfl (by omega) (vc - fromA l a1 b) rfl
             first
               | (refine J.weak (L0 := [(10, _)]) (K0 := [(500002, _), (500003, _)]) (by exact ⟨rfl, trivial⟩) (by exact ⟨rfl, rfl, rfl, rfl, trivial⟩) ?_
                  refine rtX fun ι hV => ?_
                  first
                    | rw [glueD_1 (by omega) g120 (by omega)]
                    | rw [glueD_2 (by omega)]
                    | rw [glueD_D (by omega) (by omega)]
                  dsimp only
                  exact RLn.of (List.mem_map.2 ⟨_, List.mem_cons_self, rfl⟩) hlv heib (by first | (rw [giveD_len, ← l1]; rfl) | (rw [← l1]; rfl)) (fun G hG => hG.ixq (List.mem_map.2 ⟨_, List.mem_cons_of_mem _ List.mem_cons_self, rfl⟩) rfl (by first | (rw [giveD_len]; omega) | omega)) (by first | (rw [giveD_len, ← l1]; omega) | (rw [← l1]; omega)))
               | (refine J.weak (L0 := [(10, _)]) (K0 := [(500002, _)]) (by exact ⟨rfl, trivial⟩) (by exact ⟨rfl, rfl, trivial⟩) ?_
                  refine rtX fun ι hV => ?_
                  have hw0 : glW l a1 b = [] := List.eq_nil_of_length_eq_zero (by omega)
                  first
                    | rw [glueD_2 (by omega), hw0, giveD_nil]
                    | rw [glueD_D (by omega) (by omega), hw0]
                  dsimp only
                  exact RLn.of (List.mem_map.2 ⟨_, List.mem_cons_self, rfl⟩) hlv heib rfl (fun _ _ => RIx.none _) (Nat.le_refl _))
  · exact absurd hg (by decide)
end Go.Proofs.Ytnkddjdmpnghmaa.Am
namespace Go.Proofs.Ytnkddjdmpnghmaa.Am
set_option linter.unusedSimpArgs false
set_option linter.unusedVariables false
open Go Go.RowKit
theorem unflat_St {F : Mem} {ι : Nat → Nat} {K : Own} {w : World} {t : Nat} {r : Row} (h : St F ι ((t, r) :: K) w) : St F ι ((t, { r with flat := false }) :: K) w := by
  refine ⟨h.below, h.nodup, fun x hx => ?_, h.ext⟩
  rcases List.mem_cons.1 hx with rfl | hx
  · obtain ⟨h1, h2, h3⟩ := h.own (t, r) List.mem_cons_self
    exact ⟨h1, h2, fun e => by cases e⟩
  · exact h.own x (List.mem_cons_of_mem _ hx)
section
variable {X : Cx} {F : Mem} {L : Slots} {K : Own} {s : List SI} {ops : Array Oper} {lo : List Oper}
theorem JL.flatU {u : Nat} {r : Row} (Kk : Own) (h : JL X ops lo s F L ((u, { r with flat := true }) :: Kk)) (hKk : KSub ((u, r) :: Kk) K := by repeat' first | exact trivial | refine And.intro rfl ?_) (hp : ∀ v ∈ r.cs, plain1 v = true) : JL X ops lo s F L K :=
  fun ι a w hF hS => h ι a w hF ((hS.weak hKk).flat hp)
theorem JL.unflat {t : Nat} {r : Row} (Kk : Own) (h : JL X ops lo s F L ((t, { r with flat := false }) :: Kk)) (hKk : KSub ((t, r) :: Kk) K := by repeat' first | exact trivial | refine And.intro rfl ?_) : JL X ops lo s F L K :=
  fun ι a w hF hS => h ι a w hF (unflat_St (hS.weak hKk))
theorem J.unflat {c : Code} {t : Nat} {r : Row} (Kk : Own) (h : J X (.code c :: s) F L ((t, { r with flat := false }) :: Kk)) (hKk : KSub ((t, r) :: Kk) K := by repeat' first | exact trivial | refine And.intro rfl ?_) : J X (.code c :: s) F L K :=
  fun ι a w hF hS => h ι a w hF (unflat_St (hS.weak hKk))
theorem J.flat {c : Code} {u : Nat} {r : Row} (Kk : Own) (h : J X (.code c :: s) F L ((u, { r with flat := true }) :: Kk)) (hKk : KSub ((u, r) :: Kk) K := by repeat' first | exact trivial | refine And.intro rfl ?_) (hp : ∀ v ∈ r.cs, plain1 v = true) : J X (.code c :: s) F L K :=
  fun ι a w hF hS => h ι a w hF ((hS.weak hKk).flat hp)
theorem setK_head (t : Nat) (r r' : Row) (K : Own) : setK t r' ((t, r) :: K) = (t, r') :: K := by simp [setK]
theorem rel_St {F : Mem} {ι : Nat → Nat} {K : Own} {w : World} {A t n c p : Nat} {rA r : Row} {pre post : List Value} (h : St F ι ((t, r) :: (A, rA) :: K) w) (hp : ∀ v ∈ r.cs, plain1 v = true) (hcs : rA.cs = pre ++ .slice (some ⟨t, p, some 0⟩) n c :: post) :
    St (F.add [(ι t, r)]) ι ((A, { rA with cs := pre ++ .slice (some ⟨ι t, p, none⟩) n c :: post, flat := false }) :: K) w := by
  have h1 := h.release hp
  have hh := (h1.own (A, rA) List.mem_cons_self).2.1
  have hc : ({ rA with cs := pre ++ .slice (some ⟨ι t, p, none⟩) n c :: post, flat := false } : Row).c ι = { rA.c ι with flat := false } := by
    simp only [Row.c, hcs, List.map_append, List.map_cons]
    rfl
  have := h1.set (r' := { rA with cs := pre ++ .slice (some ⟨ι t, p, none⟩) n c :: post, flat := false }) (by rw [List.lookup_cons_self]) (fun _ _ => rfl) rfl rfl rfl rfl (by rw [hc]; exact hh) (fun e => by cases e)
  rwa [setK_head] at this
/-- a row that a cell of another row shows is handed to the world -/
theorem J.releaseC {cc : Code} {A t n c p : Nat} {rA r : Row} (pre post : List Value) (Lk : Slots) (Kk : Own)
    (h : ∀ b, PlainRows [(b, r)] → New F [(b, r)] → J X (.code cc :: s) (F.add [(b, r)]) Lk ((A, { rA with cs := pre ++ .slice (some ⟨b, p, none⟩) n c :: post, flat := false }) :: Kk))
    (hLk : LSub Lk L := by repeat' first | exact trivial | refine And.intro rfl ?_) (hKk : KSub ((t, r) :: (A, rA) :: Kk) K := by repeat' first | exact trivial | refine And.intro rfl ?_)
    (hcs : rA.cs = pre ++ .slice (some ⟨t, p, some 0⟩) n c :: post) (hp : ∀ v ∈ r.cs, plain1 v = true) : J X (.code cc :: s) F L K := by
  intro ι a w hF hS
  have hS2 := rel_St (hS.weak hKk) hp hcs
  have hpr : PlainRows [(ι t, r)] := fun x hx => by rw [List.mem_singleton.1 hx]; exact hp
  exact h (ι t) hpr (hS2.new_ hpr) ι a w (hF.weak hLk) hS2
theorem JL.releaseC {A t n c p : Nat} {rA r : Row} (pre post : List Value) (Lk : Slots) (Kk : Own)
    (h : ∀ b, PlainRows [(b, r)] → New F [(b, r)] → JL X ops lo s (F.add [(b, r)]) Lk ((A, { rA with cs := pre ++ .slice (some ⟨b, p, none⟩) n c :: post, flat := false }) :: Kk))
    (hLk : LSub Lk L := by repeat' first | exact trivial | refine And.intro rfl ?_) (hKk : KSub ((t, r) :: (A, rA) :: Kk) K := by repeat' first | exact trivial | refine And.intro rfl ?_)
    (hcs : rA.cs = pre ++ .slice (some ⟨t, p, some 0⟩) n c :: post) (hp : ∀ v ∈ r.cs, plain1 v = true) : JL X ops lo s F L K := by
  intro ι a w hF hS
  have hS2 := rel_St (hS.weak hKk) hp hcs
  have hpr : PlainRows [(ι t, r)] := fun x hx => by rw [List.mem_singleton.1 hx]; exact hp
  exact h (ι t) hpr (hS2.new_ hpr) ι a w (hF.weak hLk) hS2
theorem J.trc {cc : Code} {ι0 ι1 : Nat → Nat} (h : ∀ t ∈ X.D, ι1 t = ι0 t) {a : Act} {w : World} (hl : cc.wp X.P (Lft X.N X.D ι1 (sem X s)) a w) : cc.wp X.P (Lft X.N X.D ι0 (sem X s)) a w := wp_mono hl fun e a w hq => Lft.tr h hq
/-- a row that a cell of another row shows gets another tag -/
theorem J.retagC {cc : Code} {A t u off n c : Nat} {rA r : Row} (Lk : Slots) (Kk : Own) (h : J X (.code cc :: s) F Lk (setK A { rA with cs := rA.cs.set off (.slice (some ⟨u, 0, some 0⟩) n c) } ((u, r) :: (A, rA) :: Kk)))
    (hA : K.lookup A = some rA := by rfl) (hr : K.lookup t = some r := by rfl) (hcell : rA.cs[off]? = some (.slice (some ⟨t, 0, some 0⟩) n c) := by rfl) (hfA : rA.flat = false := by rfl) (hAu : (A == u) = false := by rfl)
    (hLk : LSub Lk L := by repeat' first | exact trivial | refine And.intro rfl ?_) (hKk : KSub ((t, r) :: (A, rA) :: Kk) K := by repeat' first | exact trivial | refine And.intro rfl ?_) (hL : ntL u Lk = true := by rfl) (hK : ntK u ((A, rA) :: Kk) = true := by rfl) (hru : (r.flat || r.cs.all (nt1 u)) = true := by rfl) (hD : X.D.contains u = false := by rfl) : J X (.code cc :: s) F L K := by
  intro ι a w hF hS
  have hS1 := hS.weak hKk
  have hagree : ∀ v ∈ X.D, upd ι u (ι t) v = ι v := fun v hv => upd_ne ι (fun e => by subst e; simp at hD; exact hD hv)
  have hS2 := hS1.retag hK hru
  have hlk : ((u, r) :: (A, rA) :: Kk).lookup A = some rA := by
    rw [List.lookup_cons, hAu, List.lookup_cons_self]
  have htt : upd ι u (ι t) t = ι t := by
    by_cases e : t = u
    · subst e; exact upd_eq ..
    · exact upd_ne ι e
  have hc : ({ rA with cs := rA.cs.set off (.slice (some ⟨u, 0, some 0⟩) n c) } : Row).c (upd ι u (ι t)) = rA.c (upd ι u (ι t)) := by
    simp only [Row.c]
    congr 1
    rw [List.map_set]
    apply List.ext_getElem?
    intro j
    rw [List.getElem?_set]
    split
    · rename_i e
      subst e
      have hlt := (List.getElem?_eq_some_iff.1 hcell).1
      rw [List.length_map, if_pos hlt, List.getElem?_map, hcell]
      show some (c1 _ (.slice (some ⟨u, 0, some 0⟩) n c)) = some (c1 _ (.slice (some ⟨t, 0, some 0⟩) n c))
      show some (Value.slice (some ⟨upd ι u (ι t) u, 0, none⟩) n c) = some (Value.slice (some ⟨upd ι u (ι t) t, 0, none⟩) n c)
      rw [htt, upd_eq]
    · rfl
  have hh := (hS2.own (A, rA) (by simp)).2.1
  refine J.trc hagree (h (upd ι u (ι t)) a w ?_ (hS2.set hlk (fun _ _ => rfl) rfl rfl rfl rfl (by rw [hc]; exact hh) (fun hf => by rw [show ({ rA with cs := rA.cs.set off (.slice (some ⟨u, 0, some 0⟩) n c) } : Row).flat = rA.flat from rfl, hfA] at hf; cases hf)))
  exact (hF.weak hLk).nt (κ := upd ι u (ι t)) (t := u) (fun v hv => upd_ne ι hv) hL
/-- the end of a region that draws: what is told may be told anew there -/
theorem dnl {l : List Oper} {b : Nat} {F0 : Mem} {K0 : Own} {D : List Nat} {listed : Array Bool} (h : JL X #[] [] s F L K) : JD X l b F0 K0 D [] listed s F L K := by
  intro hp hok ι0 ι a w hF hS hag _
  obtain ⟨ι1, F1, L1, K1, h1, h2, h3, h4⟩ := h ι a w hF hS
  refine ⟨by simpa [planOk] using hp, ι1, F1, L1, K1, h1, h2, fun t ht => (h3 t ht).trans (hag t ?_), h4⟩
  simpa using List.all_eq_true.1 hok.sub t ht
end
end Go.Proofs.Ytnkddjdmpnghmaa.Am
namespace Go.Proofs.Ytnkddjdmpnghmaa.Am
set_option linter.unusedSimpArgs false
set_option linter.unusedVariables false
open Go Go.RowKit
theorem map_r1_pl (ι : Nat → Nat) {cs : List Value} (h : ∀ v ∈ cs, plain1 v = true) : cs.map (r1 ι) = cs := by
  conv => rhs; rw [← List.map_id cs]
  exact List.map_congr_left fun u hu => r1_plain ι (h u hu)
/-- elements of sz cells each, each told by T, in the cells of a row -/
structure LR {α : Type} (sz : Nat) (T : Mem → α → List Value → Prop) (Y : List (Nat × Row)) (xs : List α) (cs : List Value) : Prop where
  len : cs.length = xs.length * sz
  pl : ∀ v ∈ cs, plain1 v = true
  el : ∀ i x, xs[i]? = some x → ∃ c, c.length = sz ∧ (∀ G, Rd G Y → T G x c) ∧ ∀ j v, c[j]? = some v → cs[i * sz + j]? = some v
/-- .. that are read -/
def RL {α : Type} (sz : Nat) (T : Mem → α → List Value → Prop) (F : Mem) (v : Value) (xs : List α) : Prop :=
  (∃ b off c, v = .slice (some ⟨b, off, Option.none⟩) xs.length c ∧ xs.length ≤ c ∧ c ≤ 9223372036854775807 ∧ ∀ i x, xs[i]? = some x → ∃ cs, lookN F ⟨b, off + i * sz, Option.none⟩ sz = some cs ∧ T F x cs) ∨ (v = .slice Option.none 0 0 ∧ xs = [])
section
variable {α : Type} {sz : Nat} {T : Mem → α → List Value → Prop}
theorem LR.nil (Y : List (Nat × Row)) : LR sz T Y ([] : List α) [] := ⟨by simp, (fun v hv => by cases hv), (fun i x hx => by simp at hx)⟩
theorem LR.more {Y Z : List (Nat × Row)} {xs : List α} {cs : List Value} (h : LR sz T Y xs cs) : LR sz T (Z ++ Y) xs cs :=
  ⟨h.len, h.pl, fun i x hx => by
    obtain ⟨c, h1, h2, h3⟩ := h.el i x hx
    exact ⟨c, h1, fun G hG => h2 G hG.app_right, h3⟩⟩
theorem LR.snoc {Y Z : List (Nat × Row)} {xs : List α} {cs c : List Value} {x : α} (h : LR sz T Y xs cs) (hc : c.length = sz) (hp : ∀ v ∈ c, plain1 v = true) (hT : ∀ G, Rd G (Z ++ Y) → T G x c) : LR sz T (Z ++ Y) (xs ++ [x]) (cs ++ c) := by
  refine ⟨by rw [List.length_append, List.length_append, h.len, hc, List.length_singleton, Nat.add_mul, Nat.one_mul], fun v hv => (List.mem_append.1 hv).elim (h.pl v) (hp v), fun i y hy => ?_⟩
  rcases Nat.lt_or_ge i xs.length with hi | hi
  · rw [List.getElem?_append_left hi] at hy
    obtain ⟨c', h1, h2, h3⟩ := h.el i y hy
    refine ⟨c', h1, fun G hG => h2 G hG.app_right, fun j v hv => ?_⟩
    have hj : j < sz := by rw [← h1]; exact (List.getElem?_eq_some_iff.1 hv).1
    have hlt : i * sz + j < cs.length := by
      rw [h.len]
      calc i * sz + j < i * sz + sz := by omega
        _ = (i + 1) * sz := by rw [Nat.add_mul, Nat.one_mul]
        _ ≤ xs.length * sz := Nat.mul_le_mul_right _ hi
    rw [List.getElem?_append_left hlt]
    exact h3 j v hv
  · have hl := (List.getElem?_eq_some_iff.1 hy).1
    rw [List.length_append, List.length_singleton] at hl
    obtain rfl : i = xs.length := by omega
    rw [List.getElem?_append_right (by omega), Nat.sub_self] at hy
    simp only [List.getElem?_cons_zero, Option.some.injEq] at hy
    subst hy
    refine ⟨c, hc, hT, fun j v hv => ?_⟩
    rw [List.getElem?_append_right (by rw [h.len]; omega), h.len, Nat.add_sub_cancel_left]
    exact hv
theorem LR.read {Y : List (Nat × Row)} {xs : List α} {cs : List Value} (h : LR sz T Y xs cs) {G : Mem} {b n c : Nat} {r : Row} (hm : (b, r) ∈ Y) (hcs : r.cs = cs) (hG : Rd G Y) (hn : n = xs.length) (hc : n ≤ c) (h63 : c ≤ 9223372036854775807) : RL sz T G (.slice (some ⟨b, 0, Option.none⟩) n c) xs := by
  subst hn hcs
  refine .inl ⟨b, 0, c, rfl, hc, h63, fun i x hx => ?_⟩
  obtain ⟨c', h1, h2, h3⟩ := h.el i x hx
  refine ⟨c', ?_, h2 G hG⟩
  have := lookN_of (F := G) (a := ⟨b, 0 + i * sz, Option.none⟩) (cs := c') (fun j v hv => by
    refine hG (b, r) hm (0 + i * sz + j) v ?_
    rw [Nat.zero_add]
    exact h3 j v hv)
  rwa [h1] at this
theorem RL.nil (F : Mem) : RL sz T F (.slice Option.none 0 0) ([] : List α) := .inr ⟨rfl, rfl⟩
/-- the end of a list that was built by append, at its last row -/
theorem LR.readO {Y : List (Nat × Row)} {xs : List α} {cs : List Value} (h : LR sz T Y xs cs) {G : Mem} {b n c : Nat} {ι : Nat → Nat} {r : Row} {Z : List (Nat × Row)} (hcs : r.cs = cs) (hG : Rd G (Z ++ (b, r.r ι) :: Y)) (hn : n = xs.length) (hc : n ≤ c) (h63 : c ≤ 9223372036854775807) : RL sz T G (.slice (some ⟨b, 0, Option.none⟩) n c) xs := by
  refine LR.read (Y := (b, r.r ι) :: Y) (by have := LR.more (Z := [(b, r.r ι)]) h; exact this) List.mem_cons_self ?_ hG.app_right hn hc h63
  rw [Row.r, hcs, map_r1_pl ι h.pl]
theorem look_le_N {F F' : Mem} (hl : F.le F') : ∀ n a cs, lookN F a n = some cs → lookN F' a n = some cs := by
  intro n
  induction n with
  | zero => intro a cs h; exact h
  | succ n ih =>
    intro a cs h
    simp only [lookN] at h ⊢
    split at h <;> try (simp at h; done)
    rename_i v hv
    split at h <;> try (simp at h; done)
    rename_i cs' hcs
    rw [hl _ _ hv, ih _ _ hcs]; exact h
theorem RL.le {F F' : Mem} {v : Value} {xs : List α} (h : RL sz T F v xs) (hl : F.le F') (hT : ∀ x cs, T F x cs → T F' x cs) : RL sz T F' v xs := by
  rcases h with ⟨b, off, c, h1, h2, h3, h4⟩ | h
  · refine .inl ⟨b, off, c, h1, h2, h3, fun i x hx => ?_⟩
    obtain ⟨cs, g1, g2⟩ := h4 i x hx
    exact ⟨cs, look_le_N hl _ _ _ g1, hT _ _ g2⟩
  · exact .inr h
theorem RL.pl1 {F : Mem} {v : Value} {xs : List α} (h : RL sz T F v xs) : plain1 v = true := by
  rcases h with ⟨b, o, c, rfl, _⟩ | ⟨rfl, _⟩ <;> rfl
/-- its slice, opaque -/
theorem RL.opq {F : Mem} {v : Value} {xs : List α} (h : RL sz T F v xs) : ∃ a c, PlA a ∧ v = .slice a xs.length c ∧ xs.length ≤ c ∧ c ≤ 9223372036854775807 ∧ (0 < xs.length → ∃ b off, a = some ⟨b, off, Option.none⟩ ∧ ∀ i x, xs[i]? = some x → ∃ cs, lookN F ⟨b, off + i * sz, Option.none⟩ sz = some cs ∧ T F x cs) := by
  rcases h with ⟨b, o, c, rfl, h1, h2, h3⟩ | ⟨rfl, rfl⟩
  · exact ⟨_, c, .inr (.inl ⟨b, o, rfl⟩), rfl, h1, h2, fun _ => ⟨b, o, rfl, h3⟩⟩
  · exact ⟨Option.none, 0, .inl rfl, rfl, Nat.le_refl _, by decide, fun h => by simp at h⟩
end
end Go.Proofs.Ytnkddjdmpnghmaa.Am
namespace Go.Proofs.Ytnkddjdmpnghmaa.Am
set_option linter.unusedSimpArgs false
set_option linter.unusedVariables false
set_option maxRecDepth 100000
set_option maxHeartbeats 4000000
open Go Go.RowKit
structure Pc where
  x : Int
  width : Int
  font : Int
  size : Int
  link : Int
  run : Int
  glyphs : List Int
def Pc.cells (p : Pc) (g : Value) : List Value := [.int .i64 p.x, .int .i64 p.width, .int .i64 p.font, .int .i64 p.size, .int .i64 p.link, .int .i64 p.run, g]
structure Ln where
  width : Int
  over : Bool
  pieces : List Pc
def pcOf (i : Item) (x run : Int) : Pc := ⟨x, i.width, i.font, i.size, i.link, run, i.glyphs⟩
def TPc (F : Mem) (p : Pc) (cs : List Value) : Prop := ∃ g, cs = p.cells g ∧ RInts F g p.glyphs
theorem TPc.le {F F' : Mem} (hl : F.le F') (p : Pc) (cs : List Value) : TPc F p cs → TPc F' p cs := fun ⟨g, h1, h2⟩ => ⟨g, h1, h2.le hl⟩
def Ln.cells (x : Ln) (p : Value) : List Value := [.int .i64 x.width, .bool x.over, p]
def TLn (F : Mem) (x : Ln) (cs : List Value) : Prop := ∃ p, cs = x.cells p ∧ RL 7 TPc F p x.pieces
theorem TLn.le {F F' : Mem} (hl : F.le F') (x : Ln) (cs : List Value) : TLn F x cs → TLn F' x cs := fun ⟨g, h1, h2⟩ => ⟨g, h1, h2.le hl (TPc.le hl)⟩
def beginD (fr al : Int) : Int := if fr ≤ 0 then 0 else if al = 2 then fr else if al = 3 then fr / 2 else 0
theorem atL_CA (F : Mem) (pb : Nat) : CA Try.prog [] [] 62 [.pointer (some ⟨pb, 0, none⟩)] F [] (fun v Y K' => v = .int .i64 0 ∧ Y = [] ∧ K' = []) := by
  refine CA.go hT Try.func62 Try.ntmps62 ?_
  refine sq ?_
  refine rg ?_
  refine st (h := O) ?_
  refine nl ?_
  refine sq ?_
  refine rg ?_
  refine st (h := O) ?_
  refine nl ?_
  exact rtA [] ⟨rfl, rfl, rfl⟩
theorem atR_CA (F : Mem) (pb : Nat) (fr : Int) (h13 : look F ⟨pb, 0 + 13, none⟩ = some (.int .i64 fr)) : CA Try.prog [] [] 63 [.pointer (some ⟨pb, 0, none⟩)] F [] (fun v Y K' => v = .int .i64 fr ∧ Y = [] ∧ K' = []) := by
  refine CA.go hT Try.func63 Try.ntmps63 ?_
  refine sq ?_
  refine rg ?_
  refine st (h := O) ?_
  refine nl ?_
  refine sq ?_
  refine rg ?_
  iterate 2 (refine st (h := O) ?_)
  refine st (h := sdFA) ?_
  refine st (h := sdL) ?_
  refine st (h := O) ?_
  refine nl ?_
  exact rtA [] ⟨rfl, rfl, rfl⟩
theorem inM_CA (F : Mem) (pb : Nat) (fr : Int) (h0 : 0 < fr) (h1 : fr ≤ 9223372036854775807) (h13 : look F ⟨pb, 0 + 13, none⟩ = some (.int .i64 fr)) : CA Try.prog [] [] 64 [.pointer (some ⟨pb, 0, none⟩)] F [] (fun v Y K' => v = .int .i64 (fr / 2) ∧ Y = [] ∧ K' = []) := by
  refine CA.go hT Try.func64 Try.ntmps64 ?_
  refine sq ?_
  refine rg ?_
  refine st (h := O) ?_
  refine nl ?_
  refine sq ?_
  refine rg ?_
  iterate 2 (refine st (h := O) ?_)
  refine st (h := sdFA) ?_
  refine st (h := sdL) ?_
  refine st (h := sdQ) ?_
  refine st (h := O) ?_
  refine nl ?_
  exact rtA [] ⟨rfl, rfl, rfl⟩
theorem begin_C (F : Mem) (pb : Nat) (fr al : Int) (h1 : fr ≤ 9223372036854775807) (h13 : look F ⟨pb, 0 + 13, none⟩ = some (.int .i64 fr)) (h15 : look F ⟨pb, 0 + 15, none⟩ = some (.int .i64 al)) : C0 Try.prog 50 [.pointer (some ⟨pb, 0, none⟩)] F (.int .i64 (beginD fr al)) := by
  refine C.go hT Try.func50 Try.ntmps50 ?_
  refine sq ?_
  refine rg ?_
  refine st (h := O) ?_
  refine nl ?_
  refine sq ?_
  refine rg ?_
  iterate 3 (refine st (h := O) ?_)
  refine nl ?_
  refine sq ?_
  refine bl ?_
  refine sq ?_
  refine rg ?_
  iterate 2 (refine st (h := O) ?_)
  refine st (h := sdFA) ?_
  refine st (h := sdL) ?_
  iterate 2 (refine st (h := O) ?_)
  refine nl ?_
  refine cD (fun c0 => ?_) (fun c0 => ?_)
  ·refine sk ?_
   refine bk ?_
   refine sq ?_
   refine rg ?_
   refine st (h := O) ?_
   first
     | (refine clA [] [] [] [] [] [] (h := by exact fun ι hV hl => atL_CA _ pb) ?_
        intro v Y K' hQ hp hN
        obtain ⟨rfl, rfl, rfl⟩ := hQ)
     | (refine clA [] [] [] [] [] [] (h := by exact fun ι hV hl => atR_CA _ pb fr (hl _ _ h13)) ?_
        intro v Y K' hQ hp hN
        obtain ⟨rfl, rfl, rfl⟩ := hQ)
     | (refine clA [] [] [] [] [] [] (h := by exact fun ι hV hl => inM_CA _ pb fr (by omega) h1 (hl _ _ h13)) ?_
        intro v Y K' hQ hp hN
        obtain ⟨rfl, rfl, rfl⟩ := hQ)
   refine st (h := O) ?_
   refine nl ?_
   refine rt ⟨?_, rfl⟩
   unfold beginD
   first
     | rw [if_pos c0]
     | rw [if_neg c0, if_pos c1]
     | rw [if_neg c0, if_neg c1, if_pos c2]
     | rw [if_neg c0, if_neg c1, if_neg c2]
  ·refine sq ?_
   refine rg ?_
   iterate 2 (refine st (h := O) ?_)
   refine st (h := sdFA) ?_
   refine st (h := sdL) ?_
   iterate 2 (refine st (h := O) ?_)
   refine nl ?_
   refine cD (fun c1 => ?_) (fun c1 => ?_)
   ·refine rg ?_
    iterate 3 (refine st (h := O) ?_)
    refine nl ?_
    refine bk ?_
    refine sq ?_
    refine rg ?_
    refine st (h := O) ?_
    first
      | (refine clA [] [] [] [] [] [] (h := by exact fun ι hV hl => atL_CA _ pb) ?_
         intro v Y K' hQ hp hN
         obtain ⟨rfl, rfl, rfl⟩ := hQ)
      | (refine clA [] [] [] [] [] [] (h := by exact fun ι hV hl => atR_CA _ pb fr (hl _ _ h13)) ?_
         intro v Y K' hQ hp hN
         obtain ⟨rfl, rfl, rfl⟩ := hQ)
      | (refine clA [] [] [] [] [] [] (h := by exact fun ι hV hl => inM_CA _ pb fr (by omega) h1 (hl _ _ h13)) ?_
         intro v Y K' hQ hp hN
         obtain ⟨rfl, rfl, rfl⟩ := hQ)
    refine st (h := O) ?_
    refine nl ?_
    refine rt ⟨?_, rfl⟩
    unfold beginD
    first
      | rw [if_pos c0]
      | rw [if_neg c0, if_pos c1]
      | rw [if_neg c0, if_neg c1, if_pos c2]
      | rw [if_neg c0, if_neg c1, if_neg c2]
   ·refine sq ?_
    refine rg ?_
    iterate 2 (refine st (h := O) ?_)
    refine st (h := sdFA) ?_
    refine st (h := sdL) ?_
    iterate 2 (refine st (h := O) ?_)
    refine nl ?_
    refine cD (fun c2 => ?_) (fun c2 => ?_)
    ·refine rg ?_
     iterate 3 (refine st (h := O) ?_)
     refine nl ?_
     refine bk ?_
     refine sq ?_
     refine rg ?_
     refine st (h := O) ?_
     first
       | (refine clA [] [] [] [] [] [] (h := by exact fun ι hV hl => atL_CA _ pb) ?_
          intro v Y K' hQ hp hN
          obtain ⟨rfl, rfl, rfl⟩ := hQ)
       | (refine clA [] [] [] [] [] [] (h := by exact fun ι hV hl => atR_CA _ pb fr (hl _ _ h13)) ?_
          intro v Y K' hQ hp hN
          obtain ⟨rfl, rfl, rfl⟩ := hQ)
       | (refine clA [] [] [] [] [] [] (h := by exact fun ι hV hl => inM_CA _ pb fr (by omega) h1 (hl _ _ h13)) ?_
          intro v Y K' hQ hp hN
          obtain ⟨rfl, rfl, rfl⟩ := hQ)
     refine st (h := O) ?_
     refine nl ?_
     refine rt ⟨?_, rfl⟩
     unfold beginD
     first
       | rw [if_pos c0]
       | rw [if_neg c0, if_pos c1]
       | rw [if_neg c0, if_neg c1, if_pos c2]
       | rw [if_neg c0, if_neg c1, if_neg c2]
    ·refine sk ?_
     refine bk ?_
     refine sq ?_
     refine rg ?_
     refine st (h := O) ?_
     first
       | (refine clA [] [] [] [] [] [] (h := by exact fun ι hV hl => atL_CA _ pb) ?_
          intro v Y K' hQ hp hN
          obtain ⟨rfl, rfl, rfl⟩ := hQ)
       | (refine clA [] [] [] [] [] [] (h := by exact fun ι hV hl => atR_CA _ pb fr (hl _ _ h13)) ?_
          intro v Y K' hQ hp hN
          obtain ⟨rfl, rfl, rfl⟩ := hQ)
       | (refine clA [] [] [] [] [] [] (h := by exact fun ι hV hl => inM_CA _ pb fr (by omega) h1 (hl _ _ h13)) ?_
          intro v Y K' hQ hp hN
          obtain ⟨rfl, rfl, rfl⟩ := hQ)
     refine st (h := O) ?_
     refine nl ?_
     refine rt ⟨?_, rfl⟩
     unfold beginD
     first
       | rw [if_pos c0]
       | rw [if_neg c0, if_pos c1]
       | rw [if_neg c0, if_neg c1, if_pos c2]
       | rw [if_neg c0, if_neg c1, if_neg c2]
/-- the box of a line that is made, and its row of pieces -/
def lnB (ty : TypeId) (wd : Int) (ov : Bool) (pv : Value) : Row := { elem := ty, cs := [.int .i64 wd, .bool ov, pv], room := 3, fz := false, flat := false }
def xB (ty : TypeId) (x : Int) : Row := { elem := ty, cs := [.int .i64 x], room := 1, fz := false, flat := false }
/-- what showing leaves -/
def ShowQ (tl ti tp : TypeId) (x : Item) (run X wd : Int) (ov : Bool) (o : Option Nat) (m : Nat) (cs : List Value) (v : Value) (Y : List (Nat × Row)) (K' : Own) : Prop :=
  v = .tuple #[] ∧ ∃ (o' : Option Nat) (m' : Nat) (cs' : List Value), K' = (500001, lnB tl wd ov (apV 500003 o' m')) :: (500002, xB ti X) :: apR 500003 tp 7 true o' cs' ∧ apB o' m' ∧ (x.glyphs.length = 0 → o' = o ∧ m' = m ∧ cs' = cs) ∧
    (0 < x.glyphs.length → (∃ c, o' = some c) ∧ m' = m + 1 ∧ ∃ g', plain1 g' = true ∧ (∀ G, Rd G Y → RInts G g' x.glyphs) ∧ cs' = cs ++ (pcOf x X run).cells g')
theorem Pc.pl_cells (p : Pc) {g : Value} (h : plain1 g = true) : ∀ u ∈ p.cells g, plain1 u = true := by
  intro u hu
  simp only [Pc.cells, List.mem_cons, List.not_mem_nil, or_false] at hu
  rcases hu with rfl | rfl | rfl | rfl | rfl | rfl | rfl <;> first | rfl | exact h
theorem show0_CA (F : Mem) (x : Item) (g : Value) (run X wd : Int) (ov : Bool) (hg : RGl F g x.glyphs) (hb : x.glyphs.length * 8 ≤ 140737488355328) :
    CA Try.prog [500001, 500002] [500001, 500002, 500003] 51 [.agg ⟨x.cells g⟩, .int .i64 run, .pointer (some ⟨500001, 0, some 0⟩), .pointer (some ⟨500002, 0, some 0⟩)] F
      [(500001, lnB 47 wd ov (.slice none 0 0)), (500002, xB 3 X)] (ShowQ 47 3 51 x run X wd ov none 0 []) := by
  obtain ⟨ga, gc, rfl, hga⟩ := hg.ixq
  have hep := hga.pl
  have hone : ∀ v ∈ ivs x.glyphs, v.oneCell' = true := ivs_one _
  have hpla : (ivs x.glyphs).all plain1 = true := List.all_eq_true.2 fun v hv => by obtain ⟨y, _, rfl⟩ := List.mem_map.1 hv; rfl
  have hntt : ∀ t, (ivs x.glyphs).all (nt1 t) = true := fun t => List.all_eq_true.2 fun v hv => by obtain ⟨y, _, rfl⟩ := List.mem_map.1 hv; rfl
  have hpl1 : plain1 (.slice ga x.glyphs.length gc) = true := hg.pl1
  refine CA.go hT Try.func51 Try.ntmps51 ?_
  refine sq ?_
  refine rg ?_
  refine bx (hL := by simp [ntL, ntV, nt2, ntK, argL, cellsL, putL, Item.cells, nt1_i, nt1_b, nt1_n, nt1_w, nt1_p, nt1_o, nt1_pv, nt1_p0, hep.nt]) ?_
  refine nl ?_
  refine sq ?_
  refine rg ?_
  refine JL.flat (by exact Item.pl_cells _ hpl1) ?_
  refine st (h := sdFA) ?_
  refine st (h := sdL) ?_
  iterate 2 (refine st (h := O) ?_)
  refine nl ?_
  refine cD (fun c0 => ?_) (fun c0 => ?_)
  ·have hgp : 0 < x.glyphs.length := by omega
   refine drK (tgk := by simp [tgK, lnB, xB, Item.cells, cellsL, putL, tg1_i, tg1_b, tg1_n, tg1_o, tg1_w, tg1_p, hep.tg]) 19 [4, 500001, 500002] [(4, _), (500001, _), (500002, _)] [0, 1, 2, 3, 4, 5, 6, 7, 8, 9, 10, 11, 12, 13, 1014, 15, 1016, 1017, 18, 1019] ?_
   refine dt (hv := by exact sdFA) ?_
   iterate 2 (refine dt (hv := by exact sdL) ?_)
   refine dt (hv := by exact sdFA) ?_
   refine dt (hv := by exact sdL) ?_
   refine dt (hv := by exact sdFA) ?_
   refine dt (hv := by exact sdL) ?_
   refine dt (hv := by exact sdFA) ?_
   refine dt (hv := by exact sdL) ?_
   refine dt (hv := by exact sdFA) ?_
   refine dt (hv := by exact sdL) ?_
   refine dt (hv := by exact O) ?_
   refine dt (hv := by exact sdFA) ?_
   refine dt (hv := by exact sdL) ?_
   refine dapN (m := x.glyphs.length) (news := ivs x.glyphs) 24 true ?_ (happ := hga.app gc) (hnn := hntt _) (hflat := fun _ => hpla) (hL := by simp [ntL, ntV, nt2, ntK, argL, cellsL, putL, lnB, xB, Item.cells, nt1_i, nt1_b, nt1_n, nt1_w, nt1_p, nt1_o, nt1_pv, nt1_p0, hep.nt, setK, delK]) (hK := by simp [ntL, ntV, nt2, ntK, argL, cellsL, putL, lnB, xB, Item.cells, nt1_i, nt1_b, nt1_n, nt1_w, nt1_p, nt1_o, nt1_pv, nt1_p0, hep.nt, setK, delK])
   intro cap24 hc24 hd24
   refine dt (hv := by exact O) ?_
   refine dsl (hL := by first | rfl | simp [ntL, ntV, nt2, ntK, argL, cellsL, putL, lnB, xB, Item.cells, nt1_i, nt1_b, nt1_n, nt1_w, nt1_p, nt1_o, nt1_pv, nt1_p0, hep.nt, setK, delK]) (hK := by first | rfl | simp [zer, List.replicate, ntL, ntV, nt2, ntK, argL, cellsL, putL, lnB, xB, Item.cells, nt1_i, nt1_b, nt1_n, nt1_w, nt1_p, nt1_o, nt1_pv, nt1_p0, hep.nt, setK, delK]) ?_
   first | refine dapN (news := [_, _, _, _, _, _, _]) 500003 false (hflat := by intro h; first | rfl | cases h) (hL := by first | rfl | simp [ntL, ntV, nt2, ntK, argL, cellsL, putL, lnB, xB, Item.cells, nt1_i, nt1_b, nt1_n, nt1_w, nt1_p, nt1_o, nt1_pv, nt1_p0, hep.nt, setK, delK]) (hK := by first | rfl | simp [zer, List.replicate, ntL, ntV, nt2, ntK, argL, cellsL, putL, lnB, xB, Item.cells, nt1_i, nt1_b, nt1_n, nt1_w, nt1_p, nt1_o, nt1_pv, nt1_p0, hep.nt, setK, delK]) ?_ | refine dapO (news := [_, _, _, _, _, _, _]) 500003 (hflat := by intro h; first | rfl | cases h) (hL := by first | rfl | simp [ntL, ntV, nt2, ntK, argL, cellsL, putL, lnB, xB, Item.cells, nt1_i, nt1_b, nt1_n, nt1_w, nt1_p, nt1_o, nt1_pv, nt1_p0, hep.nt, setK, delK]) (hK := by first | rfl | simp [zer, List.replicate, ntL, ntV, nt2, ntK, argL, cellsL, putL, lnB, xB, Item.cells, nt1_i, nt1_b, nt1_n, nt1_w, nt1_p, nt1_o, nt1_pv, nt1_p0, hep.nt, setK, delK]) ?_
   intro cap27 hc27 hd27
   refine dt (hv := by exact sdFA) ?_
   refine dso (hkp := by first | exact Kept.all | exact Kept.k0 | exact Kept.kY | exact Kept.kYY | exact Kept.kY3) ?_
   refine dnl ?_
   refine JL.releaseC (A := 500003) (t := 24) [.int .i64 X, .int .i64 x.width, .int .i64 x.font, .int .i64 x.size, .int .i64 x.link, .int .i64 run] [] [] [(500001, _), (500002, _)] ?_ (hcs := by exact rfl) (hp := by exact ivs_pl _)
   intro g2 hpl hNw
   refine JL.flatU (u := 500003) [(500001, _), (500002, _)] ?_ (hp := by exact Pc.pl_cells (pcOf x X run) (g := .slice (some ⟨g2, 0, none⟩) x.glyphs.length cap24) rfl)
   refine nl ?_
   exact reAY [(500001, _), (500002, _), (500003, _)] hpl ⟨rfl, some _, 1, _, rfl, ⟨hc27, hd27⟩, fun h => absurd h (by omega), fun _ => ⟨⟨_, rfl⟩, rfl, .slice (some ⟨g2, 0, none⟩) x.glyphs.length cap24, rfl, fun G hG => Rd.ivsW hG List.mem_cons_self rfl rfl (by omega), rfl⟩⟩
  ·refine sk ?_
   have hz : x.glyphs.length = 0 := by omega
   exact reA [(500001, _), (500002, _)] ⟨rfl, none, 0, [], rfl, rfl, fun _ => ⟨rfl, rfl, rfl⟩, fun h => absurd h (by omega)⟩
theorem show1_CA (F : Mem) (x : Item) (g : Value) (run X wd : Int) (ov : Bool) (hg : RGl F g x.glyphs) (hb : x.glyphs.length * 8 ≤ 140737488355328) (cq m : Nat) (cs : List Value) (hcs : ∀ v ∈ cs, plain1 v = true) (hcl : cs.length = m * 7) (hmc : m ≤ cq) (hc63 : cq ≤ 9223372036854775807) (hm : m ≤ 2000) :
    CA Try.prog [500001, 500002] [500001, 500002, 500003] 51 [.agg ⟨x.cells g⟩, .int .i64 run, .pointer (some ⟨500001, 0, some 0⟩), .pointer (some ⟨500002, 0, some 0⟩)] F
      [(500001, lnB 47 wd ov (.slice (some ⟨500003, 0, some 0⟩) m cq)), (500002, xB 3 X), (500003, { elem := 51, cs := cs, room := cq * 7, fz := false, flat := true })] (ShowQ 47 3 51 x run X wd ov (some cq) m cs) := by
  obtain ⟨ga, gc, rfl, hga⟩ := hg.ixq
  have hep := hga.pl
  have hone : ∀ v ∈ ivs x.glyphs, v.oneCell' = true := ivs_one _
  have hpla : (ivs x.glyphs).all plain1 = true := List.all_eq_true.2 fun v hv => by obtain ⟨y, _, rfl⟩ := List.mem_map.1 hv; rfl
  have hntt : ∀ t, (ivs x.glyphs).all (nt1 t) = true := fun t => List.all_eq_true.2 fun v hv => by obtain ⟨y, _, rfl⟩ := List.mem_map.1 hv; rfl
  have hpl1 : plain1 (.slice ga x.glyphs.length gc) = true := hg.pl1
  have hcn : ∀ t, (cs.all (nt1 t)) = true := fun t => List.all_eq_true.2 fun v hv => nt1_plain t (hcs v hv)
  have hct : ∀ D, (cs.all (tg1 D)) = true := fun D => List.all_eq_true.2 fun v hv => tg1_pl D (hcs v hv)
  refine CA.go hT Try.func51 Try.ntmps51 ?_
  refine sq ?_
  refine rg ?_
  refine bx (hL := by simp [ntL, ntV, nt2, ntK, argL, cellsL, putL, Item.cells, nt1_i, nt1_b, nt1_n, nt1_w, nt1_p, nt1_o, nt1_pv, nt1_p0, hep.nt]) ?_
  refine nl ?_
  refine sq ?_
  refine rg ?_
  refine JL.flat (by exact Item.pl_cells _ hpl1) ?_
  refine st (h := sdFA) ?_
  refine st (h := sdL) ?_
  iterate 2 (refine st (h := O) ?_)
  refine nl ?_
  refine cD (fun c0 => ?_) (fun c0 => ?_)
  ·have hgp : 0 < x.glyphs.length := by omega
   refine J.unflat (t := 500003) [(4, _), (500001, _), (500002, _)] ?_
   refine drK (tgk := by simp [tgK, lnB, xB, Item.cells, cellsL, putL, tg1_i, tg1_b, tg1_n, tg1_o, tg1_w, tg1_p, hep.tg]) 19 [4, 500001, 500002, 500003] [(4, _), (500001, _), (500002, _)] [0, 1, 2, 3, 4, 5, 6, 7, 8, 9, 10, 11, 12, 13, 1014, 15, 1016, 1017, 18, 1019] ?_
   refine dt (hv := by exact sdFA) ?_
   iterate 2 (refine dt (hv := by exact sdL) ?_)
   refine dt (hv := by exact sdFA) ?_
   refine dt (hv := by exact sdL) ?_
   refine dt (hv := by exact sdFA) ?_
   refine dt (hv := by exact sdL) ?_
   refine dt (hv := by exact sdFA) ?_
   refine dt (hv := by exact sdL) ?_
   refine dt (hv := by exact sdFA) ?_
   refine dt (hv := by exact sdL) ?_
   refine dt (hv := by exact O) ?_
   refine dt (hv := by exact sdFA) ?_
   refine dt (hv := by exact sdL) ?_
   refine dapN (m := x.glyphs.length) (news := ivs x.glyphs) 24 true ?_ (happ := hga.app gc) (hnn := hntt _) (hflat := fun _ => hpla) (hL := by simp [ntL, ntV, nt2, ntK, argL, cellsL, putL, lnB, xB, Item.cells, nt1_i, nt1_b, nt1_n, nt1_w, nt1_p, nt1_o, nt1_pv, nt1_p0, hep.nt, setK, delK]) (hK := by simp [ntL, ntV, nt2, ntK, argL, cellsL, putL, lnB, xB, Item.cells, nt1_i, nt1_b, nt1_n, nt1_w, nt1_p, nt1_o, nt1_pv, nt1_p0, hep.nt, setK, delK, hcn])
   intro cap24 hc24 hd24
   refine dt (hv := by exact O) ?_
   refine dsl (hL := by first | rfl | simp [ntL, ntV, nt2, ntK, argL, cellsL, putL, lnB, xB, Item.cells, nt1_i, nt1_b, nt1_n, nt1_w, nt1_p, nt1_o, nt1_pv, nt1_p0, hep.nt, setK, delK]) (hK := by first | rfl | simp [zer, List.replicate, ntL, ntV, nt2, ntK, argL, cellsL, putL, lnB, xB, Item.cells, nt1_i, nt1_b, nt1_n, nt1_w, nt1_p, nt1_o, nt1_pv, nt1_p0, hep.nt, setK, delK, hcn]) ?_
   first | refine dapN (news := [_, _, _, _, _, _, _]) 500013 true (hflat := by intro h; first | rfl | cases h) (hL := by first | rfl | simp [ntL, ntV, nt2, ntK, argL, cellsL, putL, lnB, xB, Item.cells, nt1_i, nt1_b, nt1_n, nt1_w, nt1_p, nt1_o, nt1_pv, nt1_p0, hep.nt, setK, delK]) (hK := by first | rfl | simp [zer, List.replicate, ntL, ntV, nt2, ntK, argL, cellsL, putL, lnB, xB, Item.cells, nt1_i, nt1_b, nt1_n, nt1_w, nt1_p, nt1_o, nt1_pv, nt1_p0, hep.nt, setK, delK, hcn]) ?_ | refine dapO (news := [_, _, _, _, _, _, _]) 500013 (hflat := by intro h; first | rfl | cases h) (hL := by first | rfl | simp [ntL, ntV, nt2, ntK, argL, cellsL, putL, lnB, xB, Item.cells, nt1_i, nt1_b, nt1_n, nt1_w, nt1_p, nt1_o, nt1_pv, nt1_p0, hep.nt, setK, delK]) (hK := by first | rfl | simp [zer, List.replicate, ntL, ntV, nt2, ntK, argL, cellsL, putL, lnB, xB, Item.cells, nt1_i, nt1_b, nt1_n, nt1_w, nt1_p, nt1_o, nt1_pv, nt1_p0, hep.nt, setK, delK, hcn]) ?_
   intro cap27 hc27 hd27
   refine dt (hv := by exact sdFA) ?_
   refine dso (hkp := by first | exact Kept.all | exact Kept.k0 | exact Kept.kY | exact Kept.kYY | exact Kept.kY3) ?_
   refine dnl ?_
   refine JL.releaseC (A := 500013) (t := 24) (cs ++ [.int .i64 X, .int .i64 x.width, .int .i64 x.font, .int .i64 x.size, .int .i64 x.link, .int .i64 run]) [] [] [(500001, _), (500002, _)] ?_ (hcs := by rw [List.append_assoc]; rfl) (hp := by exact ivs_pl _)
   intro g2 hpl hNw
   refine JL.flatU (u := 500013) [(500001, _), (500002, _)] ?_ (hp := fun v hv => ?_)
   rotate_left
   · dsimp only at hv
     rw [List.append_assoc] at hv
     exact (List.mem_append.1 hv).elim (hcs v) (Pc.pl_cells (pcOf x X run) (g := .slice (some ⟨g2, 0, none⟩) x.glyphs.length cap24) rfl v)
   refine JL.retagC (A := 500001) (t := 500013) (u := 500003) (off := 2) [] [(500002, _)] ?_
   refine nl ?_
   exact reAY [(500001, _), (500002, _), (500003, _)] hpl ⟨rfl, some _, m + 1, (cs ++ [.int .i64 X, .int .i64 x.width, .int .i64 x.font, .int .i64 x.size, .int .i64 x.link, .int .i64 run]) ++ [.slice (some ⟨g2, 0, none⟩) x.glyphs.length cap24], rfl, ⟨hc27, hd27⟩, fun h => absurd h (by omega), fun _ => ⟨⟨_, rfl⟩, rfl, .slice (some ⟨g2, 0, none⟩) x.glyphs.length cap24, rfl, fun G hG => Rd.ivsW hG List.mem_cons_self rfl rfl (by omega), by rw [List.append_assoc]; rfl⟩⟩
  ·refine sk ?_
   have hz : x.glyphs.length = 0 := by omega
   exact reA [(500001, _), (500002, _), (500003, _)] ⟨rfl, some cq, m, cs, rfl, ⟨hmc, hc63⟩, fun _ => ⟨rfl, rfl, rfl⟩, fun h => absurd h (by omega)⟩
end Go.Proofs.Ytnkddjdmpnghmaa.Am
namespace Go.Proofs.Ytnkddjdmpnghmaa.Am
set_option linter.unusedSimpArgs false
set_option linter.unusedVariables false
set_option maxRecDepth 100000
set_option maxHeartbeats 4000000
open Go Go.RowKit
structure SetS where
  x : Int
  k : Nat
  run : Int
  ps : List Pc
def stepS (gs : List Int) (s : SetS) (i : Item) : SetS :=
  if i.kind = 1 then ⟨s.x + i.width, s.k, if 0 < i.glyphs.length then i.run else s.run, if 0 < i.glyphs.length then s.ps ++ [pcOf i s.x i.run] else s.ps⟩
  else if i.kind = 2 then ⟨s.x + ints gs s.k, s.k + 1, s.run, s.ps⟩ else s
def walkS (gs : List Int) (l : List Item) (x0 : Int) : Nat → SetS
  | 0 => ⟨x0, 0, 0, []⟩
  | i + 1 => stepS gs (walkS gs l x0 i) (at_ l i)
def lineS (gs : List Int) (l : List Item) (e : Item) (x0 : Int) (over : Bool) : Ln :=
  let s := walkS gs l x0 l.length
  if e.kind = 3 then ⟨s.x + e.width, over, if 0 < e.glyphs.length then s.ps ++ [pcOf e s.x s.run] else s.ps⟩ else ⟨s.x, over, s.ps⟩
theorem walkS_k (gs : List Int) (l : List Item) (x0 : Int) : ∀ i, (walkS gs l x0 i).k = (gluL Item.width l 0 i).length
  | 0 => rfl
  | i + 1 => by
    have := walkS_k gs l x0 i
    rw [walkS, gluL, List.length_append, ← this, stepS, Nat.zero_add]
    by_cases h1 : (at_ l i).kind = 1
    · rw [if_pos h1]; simp [h1]
    · rw [if_neg h1]
      split <;> rfl
theorem gluL_mono {f : Item → Int} {l : List Item} {a i : Nat} : ∀ {j}, i ≤ j → (gluL f l a i).length ≤ (gluL f l a j).length
  | 0, h => by rw [Nat.le_zero.1 h]; exact Nat.le_refl _
  | j + 1, h => by
    rcases Nat.lt_or_ge i (j + 1) with h' | h'
    · have := gluL_mono (f := f) (l := l) (a := a) (i := i) (j := j) (by omega)
      rw [gluL, List.length_append]; omega
    · obtain rfl : i = j + 1 := by omega
      exact Nat.le_refl _
theorem walkS_k_lt {gs : List Int} {l : List Item} {x0 : Int} (hc : (gluL Item.width l 0 l.length).length = gs.length) {i : Nat} (hi : i < l.length) (hk : (at_ l i).kind = 2) : (walkS gs l x0 i).k < gs.length := by
  have h1 := gluL_mono (f := Item.width) (l := l) (a := 0) (i := i + 1) (j := l.length) (by omega)
  rw [gluL, List.length_append, Nat.zero_add, if_pos hk, List.length_singleton] at h1
  rw [walkS_k]; omega
theorem walkS_bd {gs : List Int} {l : List Item} {x0 : Int} (hg : ∀ x ∈ gs, -4398046511104 ≤ x ∧ x ≤ 4398046511104) (hok : ∀ i, i < l.length → (at_ l i).ok = true) (h0 : -4398046511104 ≤ x0 ∧ x0 ≤ 4398046511104) : ∀ i, i ≤ l.length → -4398046511104 * ((i : Int) + 1) ≤ (walkS gs l x0 i).x ∧ (walkS gs l x0 i).x ≤ 4398046511104 * ((i : Int) + 1)
  | 0, _ => by simp only [walkS]; omega
  | i + 1, hi => by
    have h1 := walkS_bd hg hok h0 i (by omega)
    have h2 := hok i (by omega)
    simp only [Item.ok, decide_eq_true_eq] at h2
    have h3 : -4398046511104 ≤ ints gs (walkS gs l x0 i).k ∧ ints gs (walkS gs l x0 i).k ≤ 4398046511104 := by
      rcases Nat.lt_or_ge (walkS gs l x0 i).k gs.length with h | h
      · exact hg _ (List.mem_of_getElem? (ints_get h))
      · have : ints gs (walkS gs l x0 i).k = 0 := by simp [ints, List.getD_eq_getElem?_getD, List.getElem?_eq_none h]
        omega
    rw [walkS, stepS]
    split
    · dsimp only; omega
    · split
      · dsimp only; omega
      · omega
/-- where the glue that is left lies -/
structure SV where
  a : Option Addr
  c : Nat
  n : Nat
  m : Nat
  x : Int
  run : Int
theorem tail_RIx {F : Mem} {gb go c : Nat} {gs : List Int} {k : Nat} (h : RIx F (some ⟨gb, go, none⟩) (gs.drop k)) (hr : ∀ (i : Nat) (x : Int), (gs.drop k)[i]? = some x → look F ⟨gb, go + i, none⟩ = some (.int .i64 x)) (hc : gs.length - k ≤ c) : RIx F (some (if c = 1 then ⟨gb, go, none⟩ else addA ⟨gb, go, none⟩ (1 * 1))) (gs.drop (k + 1)) := by
  refine ⟨.inr (.inl ?_), by have := h.h63; rw [List.length_drop] at this ⊢; omega, fun hp => ?_⟩
  · split
    · exact ⟨_, _, rfl⟩
    · exact ⟨_, _, rfl⟩
  · rw [List.length_drop] at hp
    rw [if_neg (by omega)]
    refine ⟨_, _, rfl, fun i x hx => ?_⟩
    have := hr (1 + i) x (by rw [List.getElem?_drop] at hx ⊢; rw [← hx]; congr 1; omega)
    show look F ⟨gb, go + 1 * 1 + i, none⟩ = _
    rw [← this]
    congr 2
    omega
theorem tg1_pv (D : List Nat) (b o : Nat) : tg1 D (.pointer (some ⟨b, o, none⟩)) = true := rfl
theorem r0x_pl (T : List Nat) (ι : Nat → Nat) {v : Value} (h : plain0 v = true) : r0x T ι v = v := by
  cases v with
  | pointer a => cases a with
    | none => rfl
    | some a => obtain ⟨b, o, s⟩ := a; rcases s with _ | _ | s <;> first | rfl | cases h
  | slice a n c => cases a with
    | none => rfl
    | some a => obtain ⟨b, o, s⟩ := a; rcases s with _ | _ | s <;> first | rfl | cases h
  | _ => rfl
theorem itemArg (T : List Nat) (ι : Nat → Nat) (x : Item) {a : Option Addr} (h : PlA a) (n c : Nat) : rVx T ι (.agg ⟨x.cells (.slice a n c)⟩) = .agg ⟨x.cells (.slice a n c)⟩ := by
  have e : r1x T ι (.slice a n c) = .slice a n c := r0x_pl T ι (h.pl n c)
  show Value.agg ⟨(x.cells (.slice a n c)).map (r1x T ι)⟩ = _
  simp only [Item.cells, List.map_cons, List.map_nil, e]
  rfl
theorem CA.ofR {P : Program} {T0 T : List Nat} {f : FuncId} {vs us : List Value} {F : Mem} {K : Own} {Q : Value → List (Nat × Row) → Own → Prop} (h : CA P T0 T f us F K Q) (e : vs = us) : CA P T0 T f vs F K Q := e ▸ h
theorem argC' {f : Value → Value} {a a' : Value} {l l' : List Value} (h1 : f a = a') (h2 : l.map f = l') : (a :: l).map f = a' :: l' := by rw [List.map_cons, h1, h2]
theorem sdCut1 {F : Mem} {K : Own} {L : Slots} {t el : TypeId} {x y : Operand} {a : Addr} {n c : Nat} {k : IntKind} {ti tj : Ty} (hx : evO L x = some (.slice (some a) n c) := by rfl) (hy : evO L y = some (.int k (1 : Int)) := by rfl) (ht : Θ.lookup t = some ti := by rfl) (hk : ti.k = .slice el := by rfl) (hj : Θ.lookup el = some tj := by rfl) (h0 : 1 ≤ n := by omega) (h1 : n ≤ c := by omega) :
    SD Try.prog F K L (.slice t x (some y) none none) (.slice (some (if c = 1 then a else addA a (1 * tj.size))) (n - 1) (c - 1)) :=
  SD.cutS (P := Try.prog) (F := F) (K := K) (L := L) hT ht hk hj hx (lo := some y) (hi := none) (l := 1) (h := n) ⟨k, hy⟩ rfl h0 h1
theorem set_C (F : Mem) (pb : Nat) (lv : Value) (li : List Item) (e : Item) (g : Value) (ga : Option Addr) (gc : Nat) (gs : List Int) (fr : Int) (ov : Bool) (ag : Int) (hlv : RItems F lv li) (heg : RGl F g e.glyphs)
    (h16 : lookN F ⟨pb, 0, none⟩ 16 = some (lv :: (e.cells g ++ [.slice ga gs.length gc, .int .i64 fr, .bool ov, .int .i64 ag]))) (hix : RIx F ga gs) (hgc : gs.length ≤ gc) (hcnt : (gluL Item.width li 0 li.length).length = gs.length) (hok : ∀ i, i < li.length → (at_ li i).ok = true) (heok : e.ok = true)
    (hgb : ∀ x ∈ gs, -4398046511104 ≤ x ∧ x ≤ 4398046511104) (hn : li.length ≤ 1024) (hfr : fr ≤ 4398046511104) (hgl : ∀ x ∈ li, x.glyphs.length * 8 ≤ 140737488355328) (hegl : e.glyphs.length * 8 ≤ 140737488355328) :
    C Try.prog 30 [.pointer (some ⟨pb, 0, none⟩)] F (fun u Y => ∃ pv, u = .agg ⟨(lineS gs li e (beginD fr ag) ov).cells pv⟩ ∧ plain1 pv = true ∧ ∀ G, Rd G Y → RL 7 TPc G pv (lineS gs li e (beginD fr ag) ov).pieces) := by
  have q13 : look F ⟨pb, 0 + 13, none⟩ = some (.int .i64 fr) := lookN_at h16 13 rfl
  have q15 : look F ⟨pb, 0 + 15, none⟩ = some (.int .i64 ag) := lookN_at h16 15 rfl
  have q12 : look F ⟨pb, 0 + 12, none⟩ = some (.slice ga gs.length gc) := lookN_at h16 12 rfl
  have q0 : look F ⟨pb, 0, none⟩ = some lv := lookN_at h16 0 rfl
  have q0' : look F ⟨pb, 0 + 0, none⟩ = some lv := q0
  have hx0 : -4398046511104 ≤ beginD fr ag ∧ beginD fr ag ≤ 4398046511104 := by
    unfold beginD
    split
    · omega
    · split
      · omega
      · split <;> omega
  have hlvo : ∃ va vc, PlA va ∧ lv = .slice va li.length vc ∧ (0 < li.length → ∃ vb vo, va = some ⟨vb, vo, none⟩ ∧ ∀ i, i < li.length → ∃ g, lookN F ⟨vb, vo + i * 11, none⟩ 11 = some ((at_ li i).cells g) ∧ RGl F g (at_ li i).glyphs) := by
    rcases hlv with ⟨b, o, c, rfl, _, h⟩ | ⟨rfl, rfl⟩
    · exact ⟨_, c, .inr (.inl ⟨b, o, rfl⟩), rfl, fun _ => ⟨b, o, rfl, fun i hi => h i _ (at_get hi)⟩⟩
    · exact ⟨none, 0, .inl rfl, rfl, fun h => by simp at h⟩
  obtain ⟨va, vc, hva, rfl, hvr⟩ := hlvo
  obtain ⟨ea, ec, rfl, hea⟩ := heg.ixq
  have hep := hea.pl
  have hf9 : nt1 9 (.func (.func 51) #[] #[.pointer (some ⟨500001, 0, some 0⟩), .pointer (some ⟨500002, 0, some 0⟩)]) = true := rfl
  have hft : tg1 [500001, 500002, 2, 9] (.func (.func 51) #[] #[.pointer (some ⟨500001, 0, some 0⟩), .pointer (some ⟨500002, 0, some 0⟩)]) = true := rfl
  refine C.go hT Try.func30 Try.ntmps30 ?_
  refine sq ?_
  refine rg ?_
  refine al ?_
  refine nl ?_
  refine sq ?_
  refine rg ?_
  refine st (h := O) ?_
  refine cl (h := by exact fun ι hV hl => begin_C _ pb fr ag (by omega) (hl _ _ q13) (hl _ _ q15)) ?_
  refine al ?_
  refine so ?_
  refine nl ?_
  refine sq ?_
  refine rg ?_
  refine al ?_
  refine nl ?_
  refine sq ?_
  refine rg ?_
  iterate 2 (refine st (h := O) ?_)
  refine st (h := sdFA) ?_
  refine st (h := sdL) ?_
  iterate 2 (refine st (h := O) ?_)
  refine nl ?_
  refine sq ?_
  refine rg ?_
  refine JL.retagP (d := 3) (t := 3) (u := 500002) (off := 0) [(0, _), (2, _), (4, _), (5, _), (6, _)] [(2, _), (4, _)] ?_ (hL := by simp [ntL, ntV, nt2, nt1_i, nt1_p, nt1_pv, nt1_p0, hix.pl.nt]) 
  refine JL.retagP (d := 4) (t := 4) (u := 500001) (off := 0) [(3, _), (0, _), (2, _), (5, _), (6, _)] [(500002, _), (2, _)] ?_ (hL := by simp [ntL, ntV, nt2, nt1_i, nt1_p, nt1_pv, nt1_p0, hix.pl.nt])
  iterate 2 (refine st (h := O) ?_)
  refine nl ?_
  iterate 2 (refine sq ?_)
  refine rg ?_
  iterate 2 (refine st (h := O) ?_)
  refine st (h := sdFA) ?_
  refine st (h := sdL) ?_
  iterate 2 (refine st (h := O) ?_)
  refine nl ?_
  refine bl ?_
  refine J.gloop4 (α := Option Nat) (β := Nat) (γ := List Value) (δ := SV) (fun Y o i cs S => i ≤ li.length ∧ S.m = (walkS gs li (beginD fr ag) i).ps.length ∧ apB o S.m ∧ LR 7 TPc Y (walkS gs li (beginD fr ag) i).ps cs ∧ RIx F S.a (gs.drop (walkS gs li (beginD fr ag) i).k) ∧ S.n = gs.length - (walkS gs li (beginD fr ag) i).k ∧ S.n ≤ S.c ∧ S.x = (walkS gs li (beginD fr ag) i).x ∧ S.run = (walkS gs li (beginD fr ag) i).run ∧ S.m ≤ i) (fun o i cs S => [(5, .slice S.a S.n S.c), (6, .int .i64 S.run), (22, .int .i64 i)]) [(0, _), (2, _), (3, _), (4, _), (7, _), (20, _), (21, _)] (fun o i cs S => apR 500003 51 7 true o cs ++ [(500001, lnB 47 0 false (apV 500003 o S.m)), (500002, xB 3 S.x)]) [(2, _)] (fun o i cs S => li.length - i) (none) (0) ([]) (⟨ga, gc, gs.length, 0, beginD fr ag, 0⟩) (by exact ⟨rfl, rfl, rfl, trivial⟩) (by exact ⟨rfl, rfl, rfl, rfl, rfl, rfl, rfl, trivial⟩) (by exact (by repeat' first | exact trivial | refine And.intro rfl ?_)) ?_ ?_
  · exact ⟨Nat.zero_le _, rfl, rfl, LR.nil _, hix, rfl, hgc, rfl, rfl, Nat.le_refl _⟩
  ·intro Y o i cs S L1 K1 e1 e2 hI hY hN
   rcases o with _ | cap_o
   all_goals
    dsimp only [apV, apR, List.cons_append, List.nil_append] at e1 e2
    subst e1 e2
    obtain ⟨Sa, Sc, Sn, Sm, Sx, Sr⟩ := S
    obtain ⟨hi, hSm, hap, hLR, hRx, hSn, hSc, hSx, hSr, hmi⟩ := hI
    have hxb := walkS_bd hgb hok hx0 i hi
    simp only [apB] at hap
    dsimp only at hap hSm hRx hSn hSc hSx hSr hmi
    generalize hs : walkS gs li (beginD fr ag) i = s at hSm hLR hRx hSn hSx hSr hxb
    refine sq ?_
    refine rg ?_
    refine st (h := O) ?_
    refine nl ?_
    refine sq ?_
    refine cD (fun c0 => ?_) (fun c0 => ?_)
    ·have hil : i < li.length := by omega
     obtain ⟨vb, vo, rfl, hvq⟩ := hvr (by omega)
     obtain ⟨g9, hg2, hri⟩ := hvq i hil
     have hg2 := look_leN hN.le hg2
     have hri := hri.le hN.le
     obtain ⟨ga9, gc9, rfl, hga9⟩ := hri.ixq
     have hip := hga9.pl
     have hki := hok i hil
     have hgi := hgl _ (List.mem_of_getElem? (at_get hil))
     simp only [Item.ok, decide_eq_true_eq] at hki
     have hst : walkS gs li (beginD fr ag) (i + 1) = stepS gs s (at_ li i) := by rw [walkS, hs]
     have hk2l := fun h => walkS_k_lt (x0 := beginD fr ag) hcnt hil h
     rw [hs] at hk2l
     generalize hx : at_ li i = x at hg2 hri hga9 hki hgi hst hk2l
     refine sk ?_
     refine sq ?_
     refine bl ?_
     refine sq ?_
     refine rg ?_
     refine st (h := (sdX (z := 11))) ?_
     refine st (h := sdLN (hv := by exact hg2)) ?_
     refine al (hL := by simp [ntL, ntV, nt2, ntK, argL, cellsL, putL, lnB, xB, Item.cells, apV, apR, nt1_i, nt1_b, nt1_n, nt1_w, nt1_p, nt1_o, nt1_pv, nt1_p0, hf9, hip.nt, hRx.pl.nt]) (hK := by simp [ntK, cellsL, putL, lnB, xB, Item.cells, apV, apR, nt1_i, nt1_b, nt1_n, nt1_w, nt1_p, nt1_o, nt1_pv, nt1_p0, hip.nt]) ?_
     refine so ?_
     refine nl ?_
     refine sq ?_
     refine rg ?_
     refine JL.flat (by exact Item.pl_cells _ (hip.pl _ _)) ?_
     refine st (h := sdFA) ?_
     refine st (h := sdL) ?_
     refine nl ?_
     refine bl ?_
     refine sq ?_
     refine rg ?_
     iterate 2 (refine st (h := O) ?_)
     refine nl ?_
     refine cD (fun c1 => ?_) (fun c1 => ?_)
     ·rcases Nat.eq_zero_or_pos x.glyphs.length with hgz | hgp
      ·
       refine sq ?_
       refine rg ?_
       refine st (h := O) ?_
       refine st (h := sdLN) ?_
       refine st (h := sdFA) ?_
       refine st (h := sdL) ?_
       first
         | refine clA [500001, 500002] [500001, 500002, 500003] [500001, 500002, 2, 9] [(0, _), (2, _), (3, _), (4, _), (5, _), (6, _), (7, _), (9, _), (20, _), (21, _), (22, _)] [(500001, _), (500002, _), (500003, _)] [(2, _), (9, _)] (hL := by simp [tgV, tg2, tg1_i, tg1_b, tg1_n, tg1_o, tg1_w, tg1_p, tg1_pv, hft, hRx.pl.tg, hva.tg]) (h := by exact fun ι hV hl => (show1_CA _ x (.slice ga9 x.glyphs.length gc9) x.run Sx 0 false (hri.le hl) hgi cap_o Sm cs hLR.pl (by rw [hLR.len, ← hSm]) hap.1 hap.2 (by omega)).ofR (argC' (itemArg _ _ _ hip _ _) rfl)) ?_
         | refine clA [500001, 500002] [500001, 500002, 500003] [500001, 500002, 2, 9] [(0, _), (2, _), (3, _), (4, _), (5, _), (6, _), (7, _), (9, _), (20, _), (21, _), (22, _)] [(500001, _), (500002, _)] [(2, _), (9, _)] (hL := by simp [tgV, tg2, tg1_i, tg1_b, tg1_n, tg1_o, tg1_w, tg1_p, tg1_pv, hft, hRx.pl.tg, hva.tg]) (h := by exact fun ι hV hl => (show0_CA _ x (.slice ga9 x.glyphs.length gc9) x.run Sx 0 false (hri.le hl) hgi).ofR (argC' (itemArg _ _ _ hip _ _) rfl)) ?_
       intro v1 Y1 K1 hQ1 hp1 hN1
       obtain ⟨rfl, o1, m1, cs1, rfl, hap1, hz1, hq1⟩ := hQ1
       first
         | (specialize hz1 hgz
            obtain ⟨rfl, hm1, hcs1⟩ := hz1
            replace hm1 : m1 = Sm := by omega
            replace hcs1 : cs1 = cs := by first | exact hcs1 | (rw [hcs1]; exact (List.eq_nil_of_length_eq_zero (by rw [hLR.len, ← hSm]; omega)).symm))
         | (specialize hq1 hgp
            obtain ⟨⟨capn, rfl⟩, hm1, g1, hpg1, hRg1, hcs1⟩ := hq1
            replace hm1 : m1 = Sm + 1 := by omega
            first
              | replace hcs1 : cs1 = cs ++ (pcOf x Sx x.run).cells g1 := by first | exact hcs1 | (rw [hcs1, List.eq_nil_of_length_eq_zero (l := cs) (by rw [hLR.len, ← hSm]; omega)])
              | replace hcs1 : cs1 = cs ++ (pcOf e Sx Sr).cells g1 := by first | exact hcs1 | (rw [hcs1, List.eq_nil_of_length_eq_zero (l := cs) (by rw [hLR.len, ← hSm]; omega)]))
       let oN : Option Nat := by first | exact some capn | exact some cap_o | exact none
       refine nl ?_
       refine sq ?_
       refine rg ?_
       refine st (h := sdL) ?_
       refine st (h := sdFA) ?_
       refine st (h := sdL) ?_
       refine st (h := sdA) ?_
       refine so ?_
       refine nl ?_
       refine sq ?_
       refine rg ?_
       refine st (h := sdFA) ?_
       refine st (h := sdL) ?_
       iterate 2 (refine st (h := O) ?_)
       refine nl ?_
       refine cD (fun c2 => ?_) (fun c2 => ?_)
       ·try (exfalso; omega)
        all_goals
          refine rg ?_
          refine st (h := sdFA) ?_
          refine st (h := sdL) ?_
          refine st (h := O) ?_
          refine nl ?_
          iterate 2 (refine bk ?_)
          refine rg ?_
          refine st (h := sdA) ?_
          refine st (h := O) ?_
          refine nl ?_
          refine gbk4 (_) (oN) (i + 1) (cs1) (⟨Sa, Sc, Sn, m1, Sx + x.width, x.run⟩) (by exact ⟨rfl, rfl, rfl, trivial⟩) (by exact ⟨rfl, rfl, rfl, rfl, rfl, rfl, rfl, trivial⟩) (by exact (by repeat' first | exact trivial | refine And.intro rfl ?_)) (by exact add_add _ _ _) ?_ ?_ ?_
          · exact hY.app hp1
          · omega
          · rw [hst, stepS, if_pos c1, if_pos hgp, if_pos hgp]
            refine ⟨by omega, by rw [List.length_append, ← hSm]; exact hm1, hap1, ?_, hRx, hSn, hSc, by rw [hSx], rfl, by dsimp only; omega⟩
            rw [hcs1, hSx]
            exact LR.snoc (Z := Y1) hLR rfl (Pc.pl_cells _ hpg1) fun G hG => ⟨g1, rfl, hRg1 G hG.app_left⟩
       ·try (exfalso; omega)
        all_goals
          refine sk ?_
          iterate 2 (refine bk ?_)
          refine rg ?_
          refine st (h := sdA) ?_
          refine st (h := O) ?_
          refine nl ?_
          refine gbk4 (_) (oN) (i + 1) (cs1) (⟨Sa, Sc, Sn, m1, Sx + x.width, Sr⟩) (by exact ⟨rfl, rfl, rfl, trivial⟩) (by exact ⟨rfl, rfl, rfl, rfl, rfl, rfl, rfl, trivial⟩) (by exact (by repeat' first | exact trivial | refine And.intro rfl ?_)) (by exact add_add _ _ _) ?_ ?_ ?_
          · exact hY.app hp1
          · omega
          · rw [hst, stepS, if_pos c1, if_neg (by omega), if_neg (by omega)]
            refine ⟨by omega, by rw [← hSm]; exact hm1, hap1, by rw [hcs1]; exact LR.more hLR, hRx, hSn, hSc, by rw [hSx], hSr, by dsimp only; omega⟩
      ·
       refine sq ?_
       refine rg ?_
       refine st (h := O) ?_
       refine st (h := sdLN) ?_
       refine st (h := sdFA) ?_
       refine st (h := sdL) ?_
       first
         | refine clA [500001, 500002] [500001, 500002, 500003] [500001, 500002, 2, 9] [(0, _), (2, _), (3, _), (4, _), (5, _), (6, _), (7, _), (9, _), (20, _), (21, _), (22, _)] [(500001, _), (500002, _), (500003, _)] [(2, _), (9, _)] (hL := by simp [tgV, tg2, tg1_i, tg1_b, tg1_n, tg1_o, tg1_w, tg1_p, tg1_pv, hft, hRx.pl.tg, hva.tg]) (h := by exact fun ι hV hl => (show1_CA _ x (.slice ga9 x.glyphs.length gc9) x.run Sx 0 false (hri.le hl) hgi cap_o Sm cs hLR.pl (by rw [hLR.len, ← hSm]) hap.1 hap.2 (by omega)).ofR (argC' (itemArg _ _ _ hip _ _) rfl)) ?_
         | refine clA [500001, 500002] [500001, 500002, 500003] [500001, 500002, 2, 9] [(0, _), (2, _), (3, _), (4, _), (5, _), (6, _), (7, _), (9, _), (20, _), (21, _), (22, _)] [(500001, _), (500002, _)] [(2, _), (9, _)] (hL := by simp [tgV, tg2, tg1_i, tg1_b, tg1_n, tg1_o, tg1_w, tg1_p, tg1_pv, hft, hRx.pl.tg, hva.tg]) (h := by exact fun ι hV hl => (show0_CA _ x (.slice ga9 x.glyphs.length gc9) x.run Sx 0 false (hri.le hl) hgi).ofR (argC' (itemArg _ _ _ hip _ _) rfl)) ?_
       intro v1 Y1 K1 hQ1 hp1 hN1
       obtain ⟨rfl, o1, m1, cs1, rfl, hap1, hz1, hq1⟩ := hQ1
       first
         | (specialize hz1 hgz
            obtain ⟨rfl, hm1, hcs1⟩ := hz1
            replace hm1 : m1 = Sm := by omega
            replace hcs1 : cs1 = cs := by first | exact hcs1 | (rw [hcs1]; exact (List.eq_nil_of_length_eq_zero (by rw [hLR.len, ← hSm]; omega)).symm))
         | (specialize hq1 hgp
            obtain ⟨⟨capn, rfl⟩, hm1, g1, hpg1, hRg1, hcs1⟩ := hq1
            replace hm1 : m1 = Sm + 1 := by omega
            first
              | replace hcs1 : cs1 = cs ++ (pcOf x Sx x.run).cells g1 := by first | exact hcs1 | (rw [hcs1, List.eq_nil_of_length_eq_zero (l := cs) (by rw [hLR.len, ← hSm]; omega)])
              | replace hcs1 : cs1 = cs ++ (pcOf e Sx Sr).cells g1 := by first | exact hcs1 | (rw [hcs1, List.eq_nil_of_length_eq_zero (l := cs) (by rw [hLR.len, ← hSm]; omega)]))
       let oN : Option Nat := by first | exact some capn | exact some cap_o | exact none
       refine nl ?_
       refine sq ?_
       refine rg ?_
       refine st (h := sdL) ?_
       refine st (h := sdFA) ?_
       refine st (h := sdL) ?_
       refine st (h := sdA) ?_
       refine so ?_
       refine nl ?_
       refine sq ?_
       refine rg ?_
       refine st (h := sdFA) ?_
       refine st (h := sdL) ?_
       iterate 2 (refine st (h := O) ?_)
       refine nl ?_
       refine cD (fun c2 => ?_) (fun c2 => ?_)
       ·try (exfalso; omega)
        all_goals
          refine rg ?_
          refine st (h := sdFA) ?_
          refine st (h := sdL) ?_
          refine st (h := O) ?_
          refine nl ?_
          iterate 2 (refine bk ?_)
          refine rg ?_
          refine st (h := sdA) ?_
          refine st (h := O) ?_
          refine nl ?_
          refine gbk4 (_) (oN) (i + 1) (cs1) (⟨Sa, Sc, Sn, m1, Sx + x.width, x.run⟩) (by exact ⟨rfl, rfl, rfl, trivial⟩) (by exact ⟨rfl, rfl, rfl, rfl, rfl, rfl, rfl, trivial⟩) (by exact (by repeat' first | exact trivial | refine And.intro rfl ?_)) (by exact add_add _ _ _) ?_ ?_ ?_
          · exact hY.app hp1
          · omega
          · rw [hst, stepS, if_pos c1, if_pos hgp, if_pos hgp]
            refine ⟨by omega, by rw [List.length_append, ← hSm]; exact hm1, hap1, ?_, hRx, hSn, hSc, by rw [hSx], rfl, by dsimp only; omega⟩
            rw [hcs1, hSx]
            exact LR.snoc (Z := Y1) hLR rfl (Pc.pl_cells _ hpg1) fun G hG => ⟨g1, rfl, hRg1 G hG.app_left⟩
       ·try (exfalso; omega)
        all_goals
          refine sk ?_
          iterate 2 (refine bk ?_)
          refine rg ?_
          refine st (h := sdA) ?_
          refine st (h := O) ?_
          refine nl ?_
          refine gbk4 (_) (oN) (i + 1) (cs1) (⟨Sa, Sc, Sn, m1, Sx + x.width, Sr⟩) (by exact ⟨rfl, rfl, rfl, trivial⟩) (by exact ⟨rfl, rfl, rfl, rfl, rfl, rfl, rfl, trivial⟩) (by exact (by repeat' first | exact trivial | refine And.intro rfl ?_)) (by exact add_add _ _ _) ?_ ?_ ?_
          · exact hY.app hp1
          · omega
          · rw [hst, stepS, if_pos c1, if_neg (by omega), if_neg (by omega)]
            refine ⟨by omega, by rw [← hSm]; exact hm1, hap1, by rw [hcs1]; exact LR.more hLR, hRx, hSn, hSc, by rw [hSx], hSr, by dsimp only; omega⟩
     ·refine sq ?_
      refine rg ?_
      iterate 2 (refine st (h := O) ?_)
      refine nl ?_
      refine cD (fun c3 => ?_) (fun c3 => ?_)
      ·have hkl := hk2l c3
       obtain ⟨gb, go, rfl, hgr⟩ := hRx.rd (by rw [List.length_drop]; omega)
       have hq : look (F.add Y) ⟨gb, go + (0 : Int).toNat * 1, none⟩ = some (.int .i64 (ints gs s.k)) := hN.le _ _ (hgr 0 _ (by rw [List.getElem?_drop]; exact ints_get hkl))
       have hgq := hgb _ (List.mem_of_getElem? (ints_get hkl))
       let oN : Option Nat := by first | exact some cap_o | exact none
       refine dr 7 [9, 500001, 500002, 2, 500003] [0, 1, 2, 3, 4, 2005, 2006, 1007, 2008] ?_
       refine dt (hv := by exact sdL) ?_
       refine dt (hv := by exact O) ?_
       refine dt (hv := by exact (sdX (z := 1))) ?_
       refine dt (hv := by exact (by first | exact sdLG | exact sdW)) ?_
       refine dt (hv := by exact sdA) ?_
       refine dq (hv := by exact fun _ _ => O) ?_
       refine dq (hv := by exact fun _ _ => sdCut1 (n := Sn) (c := Sc)) ?_
       refine dso (hkp := by first | exact Kept.all | exact Kept.k0 | exact Kept.kY | exact Kept.kYY | exact Kept.kY3) ?_
       refine dq (hv := by exact fun _ _ => O) ?_
       refine dn ?_
       iterate 2 (refine bk ?_)
       refine rg ?_
       refine st (h := sdA) ?_
       refine st (h := O) ?_
       refine nl ?_
       refine gbk4 (Y) (oN) (i + 1) (cs) (⟨_, Sc - 1, Sn - 1, Sm, Sx + ints gs s.k, Sr⟩) (by exact ⟨rfl, rfl, rfl, trivial⟩) (by exact ⟨rfl, rfl, rfl, rfl, rfl, rfl, rfl, trivial⟩) (by exact (by repeat' first | exact trivial | refine And.intro rfl ?_)) (by first | rfl | exact add_add _ _ _) ?_ ?_ ?_
       · assumption
       · omega
       · rw [hst, stepS, if_neg c1, if_pos c3]
         exact ⟨by omega, hSm, hap, hLR, tail_RIx (c := Sc) hRx hgr (by omega), by dsimp only; omega, by dsimp only; omega, by rw [hSx], hSr, by dsimp only; omega⟩
      ·let oN : Option Nat := by first | exact some cap_o | exact none
       refine sk ?_
       iterate 2 (refine bk ?_)
       refine rg ?_
       refine st (h := sdA) ?_
       refine st (h := O) ?_
       refine nl ?_
       refine gbk4 (Y) (oN) (i + 1) (cs) (⟨Sa, Sc, Sn, Sm, Sx, Sr⟩) (by exact ⟨rfl, rfl, rfl, trivial⟩) (by exact ⟨rfl, rfl, rfl, rfl, rfl, rfl, rfl, trivial⟩) (by exact (by repeat' first | exact trivial | refine And.intro rfl ?_)) (by first | rfl | exact add_add _ _ _) ?_ ?_ ?_
       · assumption
       · omega
       · rw [hst, stepS, if_neg c1, if_neg c3]
         exact ⟨by omega, hSm, hap, hLR, hRx, hSn, hSc, hSx, hSr, by dsimp only; omega⟩
    ·obtain rfl : i = li.length := by omega
     have h16' := look_leN hN.le h16
     have qk : look (F.add Y) ⟨pb, 0 + 1 + 0, none⟩ = some (.int .i64 e.kind) := lookN_at h16' 1 rfl
     have qw : look (F.add Y) ⟨pb, 0 + 1 + 1, none⟩ = some (.int .i64 e.width) := lookN_at h16' 2 rfl
     have q14 : look (F.add Y) ⟨pb, 0 + 14, none⟩ = some (.bool ov) := lookN_at h16' 14 rfl
     have qe : lookN (F.add Y) ⟨pb, 0 + 1, none⟩ 11 = some (e.cells (.slice ea e.glyphs.length ec)) := by
       refine lookN_of (F := F.add Y) (a := ⟨pb, 0 + 1, none⟩) (cs := e.cells (.slice ea e.glyphs.length ec)) fun j v hj => ?_
       have hj11 : j < (e.cells (.slice ea e.glyphs.length ec)).length := (List.getElem?_eq_some_iff.1 hj).1
       have h := lookN_at h16' (j + 1) (v := v) (by rw [List.getElem?_cons_succ, List.getElem?_append_left hj11]; exact hj)
       rw [← h]
       show look _ ⟨pb, 0 + 1 + j, none⟩ = look _ ⟨pb, 0 + (j + 1), none⟩
       congr 2
       omega
     have heok := heok
     simp only [Item.ok, decide_eq_true_eq] at heok
     refine ex ?_
     iterate 2 (refine sq ?_)
     refine rg ?_
     iterate 2 (refine st (h := O) ?_)
     iterate 2 (refine st (h := sdFA) ?_)
     refine st (h := sdL) ?_
     refine st (h := O) ?_
     refine nl ?_
     refine cD (fun c4 => ?_) (fun c4 => ?_)
     ·rcases Nat.eq_zero_or_pos e.glyphs.length with hgz | hgp
      ·
       refine sq ?_
       refine rg ?_
       iterate 3 (refine st (h := O) ?_)
       refine st (h := sdFA) ?_
       refine st (h := sdLN (hv := by exact qe)) ?_
       refine st (h := O) ?_
       first
         | refine clA [500001, 500002] [500001, 500002, 500003] [500001, 500002, 2] [(0, _), (2, _), (3, _), (4, _)] [(500001, _), (500002, _), (500003, _)] [(2, _)] (h := by exact fun ι hV hl => (show1_CA _ e (.slice ea e.glyphs.length ec) Sr Sx 0 false ((heg.le hN.le).le hl) hegl cap_o Sm cs hLR.pl (by rw [hLR.len, ← hSm]) hap.1 hap.2 (by omega)).ofR (argC' (itemArg _ _ _ hep _ _) rfl)) ?_
         | refine clA [500001, 500002] [500001, 500002, 500003] [500001, 500002, 2] [(0, _), (2, _), (3, _), (4, _)] [(500001, _), (500002, _)] [(2, _)] (h := by exact fun ι hV hl => (show0_CA _ e (.slice ea e.glyphs.length ec) Sr Sx 0 false ((heg.le hN.le).le hl) hegl).ofR (argC' (itemArg _ _ _ hep _ _) rfl)) ?_
       intro v1 Y1 K1 hQ1 hp1 hN1
       have qw : look ((F.add Y).add Y1) ⟨pb, 0 + 1 + 1, none⟩ = some (.int .i64 e.width) := hN1.le _ _ qw
       have q14 : look ((F.add Y).add Y1) ⟨pb, 0 + 14, none⟩ = some (.bool ov) := hN1.le _ _ q14
       obtain ⟨rfl, o1, m1, cs1, rfl, hap1, hz1, hq1⟩ := hQ1
       first
         | (specialize hz1 hgz
            obtain ⟨rfl, hm1, hcs1⟩ := hz1
            replace hm1 : m1 = Sm := by omega
            replace hcs1 : cs1 = cs := by first | exact hcs1 | (rw [hcs1]; exact (List.eq_nil_of_length_eq_zero (by rw [hLR.len, ← hSm]; omega)).symm))
         | (specialize hq1 hgp
            obtain ⟨⟨capn, rfl⟩, hm1, g1, hpg1, hRg1, hcs1⟩ := hq1
            replace hm1 : m1 = Sm + 1 := by omega
            first
              | replace hcs1 : cs1 = cs ++ (pcOf x Sx x.run).cells g1 := by first | exact hcs1 | (rw [hcs1, List.eq_nil_of_length_eq_zero (l := cs) (by rw [hLR.len, ← hSm]; omega)])
              | replace hcs1 : cs1 = cs ++ (pcOf e Sx Sr).cells g1 := by first | exact hcs1 | (rw [hcs1, List.eq_nil_of_length_eq_zero (l := cs) (by rw [hLR.len, ← hSm]; omega)]))
       refine nl ?_
       refine dr 7 [500001, 500002, 500003, 2] [0, 1, 2, 3, 4, 5, 6, 1007] ?_
       refine dt (hv := by exact sdL) ?_
       iterate 2 (refine dt (hv := by exact O) ?_)
       iterate 2 (refine dt (hv := by exact sdFA) ?_)
       refine dt (hv := by exact sdL) ?_
       refine dt (hv := by exact sdA) ?_
       refine dso (hkp := by first | exact Kept.all | exact Kept.k0 | exact Kept.kY | exact Kept.kYY | exact Kept.kY3) ?_
       refine dn ?_
       refine sq ?_
       refine drK 9 [500001, 500002, 500003, 2] [(2, _), (500002, _)] [0, 1, 2, 3, 4, 5, 1006, 7, 1008] ?_
       refine dt (hv := by exact sdL) ?_
       iterate 2 (refine dt (hv := by exact O) ?_)
       refine dt (hv := by exact sdFA) ?_
       refine dt (hv := by exact sdL) ?_
       refine dt (hv := by exact sdFA) ?_
       refine dso (hkp := by first | exact Kept.all | exact Kept.k0 | exact Kept.kY | exact Kept.kYY | exact Kept.kY3) ?_
       refine dt (hv := by exact sdFA) ?_
       refine dso (hkp := by first | exact Kept.all | exact Kept.k0 | exact Kept.kY | exact Kept.kYY | exact Kept.kY3) ?_
       refine dn ?_
       refine sq ?_
       refine rg ?_
       refine st (h := sdLN) ?_
       refine so ?_
       refine nl ?_
       rw [add_add]
       first
         | (have hL : lineS gs li e (beginD fr ag) ov = ⟨Sx + e.width, ov, s.ps ++ [pcOf e s.x s.run]⟩ := by
              unfold lineS
              rw [if_pos c4, if_pos hgp, hs, hSx]
            rw [hL]
            have hLR1 : LR 7 TPc (Y1 ++ Y) (s.ps ++ [pcOf e s.x s.run]) cs1 := by
              rw [hcs1, hSx, hSr]
              exact LR.snoc (Z := Y1) hLR rfl (Pc.pl_cells _ hpg1) fun G hG => ⟨g1, rfl, hRg1 G hG.app_left⟩
            refine J.weak (L0 := [(2, _)]) (K0 := [(2, _), (500003, _)]) (by exact ⟨rfl, trivial⟩) (by exact ⟨rfl, rfl, rfl, rfl, trivial⟩) ?_
            refine rtY (hY.app hp1) fun ι hV => ⟨.slice (some ⟨ι 500003, 0, none⟩) m1 capn, rfl, rfl, fun G hG => ?_⟩
            exact hLR1.readO (Z := [_]) rfl hG (by rw [List.length_append, ← hSm]; exact hm1) hap1.1 hap1.2)
         | (have hL : lineS gs li e (beginD fr ag) ov = ⟨Sx + e.width, ov, s.ps⟩ := by
              unfold lineS
              rw [if_pos c4, if_neg (by omega), hs, hSx]
            rw [hL]
            first
              | (refine J.weak (L0 := [(2, _)]) (K0 := [(2, _), (500003, _)]) (by exact ⟨rfl, trivial⟩) (by exact ⟨rfl, rfl, rfl, rfl, trivial⟩) ?_
                 refine rtY (hY.app hp1) fun ι hV => ⟨.slice (some ⟨ι 500003, 0, none⟩) m1 cap_o, rfl, rfl, fun G hG => ?_⟩
                 exact (LR.more (Z := Y1) hLR).readO (Z := [_]) hcs1 hG (by rw [← hSm]; exact hm1) hap1.1 hap1.2)
              | (refine J.weak (L0 := [(2, _)]) (K0 := [(2, _)]) (by exact ⟨rfl, trivial⟩) (by exact ⟨rfl, rfl, trivial⟩) ?_
                 have hps : s.ps = [] := List.eq_nil_of_length_eq_zero (by omega)
                 rw [hps]
                 exact rtY (hY.app hp1) fun ι hV => ⟨.slice none 0 0, rfl, rfl, fun G hG => RL.nil _⟩))
      ·
       refine sq ?_
       refine rg ?_
       iterate 3 (refine st (h := O) ?_)
       refine st (h := sdFA) ?_
       refine st (h := sdLN (hv := by exact qe)) ?_
       refine st (h := O) ?_
       first
         | refine clA [500001, 500002] [500001, 500002, 500003] [500001, 500002, 2] [(0, _), (2, _), (3, _), (4, _)] [(500001, _), (500002, _), (500003, _)] [(2, _)] (h := by exact fun ι hV hl => (show1_CA _ e (.slice ea e.glyphs.length ec) Sr Sx 0 false ((heg.le hN.le).le hl) hegl cap_o Sm cs hLR.pl (by rw [hLR.len, ← hSm]) hap.1 hap.2 (by omega)).ofR (argC' (itemArg _ _ _ hep _ _) rfl)) ?_
         | refine clA [500001, 500002] [500001, 500002, 500003] [500001, 500002, 2] [(0, _), (2, _), (3, _), (4, _)] [(500001, _), (500002, _)] [(2, _)] (h := by exact fun ι hV hl => (show0_CA _ e (.slice ea e.glyphs.length ec) Sr Sx 0 false ((heg.le hN.le).le hl) hegl).ofR (argC' (itemArg _ _ _ hep _ _) rfl)) ?_
       intro v1 Y1 K1 hQ1 hp1 hN1
       have qw : look ((F.add Y).add Y1) ⟨pb, 0 + 1 + 1, none⟩ = some (.int .i64 e.width) := hN1.le _ _ qw
       have q14 : look ((F.add Y).add Y1) ⟨pb, 0 + 14, none⟩ = some (.bool ov) := hN1.le _ _ q14
       obtain ⟨rfl, o1, m1, cs1, rfl, hap1, hz1, hq1⟩ := hQ1
       first
         | (specialize hz1 hgz
            obtain ⟨rfl, hm1, hcs1⟩ := hz1
            replace hm1 : m1 = Sm := by omega
            replace hcs1 : cs1 = cs := by first | exact hcs1 | (rw [hcs1]; exact (List.eq_nil_of_length_eq_zero (by rw [hLR.len, ← hSm]; omega)).symm))
         | (specialize hq1 hgp
            obtain ⟨⟨capn, rfl⟩, hm1, g1, hpg1, hRg1, hcs1⟩ := hq1
            replace hm1 : m1 = Sm + 1 := by omega
            first
              | replace hcs1 : cs1 = cs ++ (pcOf x Sx x.run).cells g1 := by first | exact hcs1 | (rw [hcs1, List.eq_nil_of_length_eq_zero (l := cs) (by rw [hLR.len, ← hSm]; omega)])
              | replace hcs1 : cs1 = cs ++ (pcOf e Sx Sr).cells g1 := by first | exact hcs1 | (rw [hcs1, List.eq_nil_of_length_eq_zero (l := cs) (by rw [hLR.len, ← hSm]; omega)]))
       refine nl ?_
       refine dr 7 [500001, 500002, 500003, 2] [0, 1, 2, 3, 4, 5, 6, 1007] ?_
       refine dt (hv := by exact sdL) ?_
       iterate 2 (refine dt (hv := by exact O) ?_)
       iterate 2 (refine dt (hv := by exact sdFA) ?_)
       refine dt (hv := by exact sdL) ?_
       refine dt (hv := by exact sdA) ?_
       refine dso (hkp := by first | exact Kept.all | exact Kept.k0 | exact Kept.kY | exact Kept.kYY | exact Kept.kY3) ?_
       refine dn ?_
       refine sq ?_
       refine drK 9 [500001, 500002, 500003, 2] [(2, _), (500002, _)] [0, 1, 2, 3, 4, 5, 1006, 7, 1008] ?_
       refine dt (hv := by exact sdL) ?_
       iterate 2 (refine dt (hv := by exact O) ?_)
       refine dt (hv := by exact sdFA) ?_
       refine dt (hv := by exact sdL) ?_
       refine dt (hv := by exact sdFA) ?_
       refine dso (hkp := by first | exact Kept.all | exact Kept.k0 | exact Kept.kY | exact Kept.kYY | exact Kept.kY3) ?_
       refine dt (hv := by exact sdFA) ?_
       refine dso (hkp := by first | exact Kept.all | exact Kept.k0 | exact Kept.kY | exact Kept.kYY | exact Kept.kY3) ?_
       refine dn ?_
       refine sq ?_
       refine rg ?_
       refine st (h := sdLN) ?_
       refine so ?_
       refine nl ?_
       rw [add_add]
       first
         | (have hL : lineS gs li e (beginD fr ag) ov = ⟨Sx + e.width, ov, s.ps ++ [pcOf e s.x s.run]⟩ := by
              unfold lineS
              rw [if_pos c4, if_pos hgp, hs, hSx]
            rw [hL]
            have hLR1 : LR 7 TPc (Y1 ++ Y) (s.ps ++ [pcOf e s.x s.run]) cs1 := by
              rw [hcs1, hSx, hSr]
              exact LR.snoc (Z := Y1) hLR rfl (Pc.pl_cells _ hpg1) fun G hG => ⟨g1, rfl, hRg1 G hG.app_left⟩
            refine J.weak (L0 := [(2, _)]) (K0 := [(2, _), (500003, _)]) (by exact ⟨rfl, trivial⟩) (by exact ⟨rfl, rfl, rfl, rfl, trivial⟩) ?_
            refine rtY (hY.app hp1) fun ι hV => ⟨.slice (some ⟨ι 500003, 0, none⟩) m1 capn, rfl, rfl, fun G hG => ?_⟩
            exact hLR1.readO (Z := [_]) rfl hG (by rw [List.length_append, ← hSm]; exact hm1) hap1.1 hap1.2)
         | (have hL : lineS gs li e (beginD fr ag) ov = ⟨Sx + e.width, ov, s.ps⟩ := by
              unfold lineS
              rw [if_pos c4, if_neg (by omega), hs, hSx]
            rw [hL]
            first
              | (refine J.weak (L0 := [(2, _)]) (K0 := [(2, _), (500003, _)]) (by exact ⟨rfl, trivial⟩) (by exact ⟨rfl, rfl, rfl, rfl, trivial⟩) ?_
                 refine rtY (hY.app hp1) fun ι hV => ⟨.slice (some ⟨ι 500003, 0, none⟩) m1 cap_o, rfl, rfl, fun G hG => ?_⟩
                 exact (LR.more (Z := Y1) hLR).readO (Z := [_]) hcs1 hG (by rw [← hSm]; exact hm1) hap1.1 hap1.2)
              | (refine J.weak (L0 := [(2, _)]) (K0 := [(2, _)]) (by exact ⟨rfl, trivial⟩) (by exact ⟨rfl, rfl, trivial⟩) ?_
                 have hps : s.ps = [] := List.eq_nil_of_length_eq_zero (by omega)
                 rw [hps]
                 exact rtY (hY.app hp1) fun ι hV => ⟨.slice none 0 0, rfl, rfl, fun G hG => RL.nil _⟩))
     ·refine sk ?_
      refine sq ?_
      refine drK 9 [500001, 500002, 2, 500003] [(2, _), (500002, _)] [0, 1, 2, 3, 4, 5, 1006, 7, 1008] ?_
      refine dt (hv := by exact sdL) ?_
      iterate 2 (refine dt (hv := by exact O) ?_)
      refine dt (hv := by exact sdFA) ?_
      refine dt (hv := by exact sdL) ?_
      refine dt (hv := by exact sdFA) ?_
      refine dso (hkp := by first | exact Kept.all | exact Kept.k0 | exact Kept.kY | exact Kept.kYY | exact Kept.kY3) ?_
      refine dt (hv := by exact sdFA) ?_
      refine dso (hkp := by first | exact Kept.all | exact Kept.k0 | exact Kept.kY | exact Kept.kYY | exact Kept.kY3) ?_
      refine dn ?_
      refine sq ?_
      refine rg ?_
      refine st (h := sdLN) ?_
      refine so ?_
      refine nl ?_
      have hL : lineS gs li e (beginD fr ag) ov = ⟨Sx, ov, s.ps⟩ := by
        unfold lineS
        rw [if_neg c4, hs, hSx]
      rw [hL]
      first
        | (refine J.weak (L0 := [(2, _)]) (K0 := [(2, _), (500003, _)]) (by exact ⟨rfl, trivial⟩) (by exact ⟨rfl, rfl, rfl, rfl, trivial⟩) ?_
           refine rtY hY fun ι hV => ⟨.slice (some ⟨ι 500003, 0, none⟩) Sm cap_o, rfl, rfl, fun G hG => ?_⟩
           exact hLR.readO (Z := [_]) rfl hG hSm hap.1 hap.2)
        | (refine J.weak (L0 := [(2, _)]) (K0 := [(2, _)]) (by exact ⟨rfl, trivial⟩) (by exact ⟨rfl, rfl, trivial⟩) ?_
           have hps : s.ps = [] := List.eq_nil_of_length_eq_zero (by omega)
           rw [hps]
           exact rtY hY fun ι hV => ⟨.slice none 0 0, rfl, rfl, fun G hG => RL.nil _⟩)
end Go.Proofs.Ytnkddjdmpnghmaa.Am
namespace Go.Proofs.Ytnkddjdmpnghmaa.Am
set_option linter.unusedSimpArgs false
set_option linter.unusedVariables false
set_option maxRecDepth 100000
set_option maxHeartbeats 4000000
open Go Go.RowKit
theorem of_Cb (F Fb : Mem) (v : Value) (l : List Item) (a b width ag : Int) (hv : RItems Fb v l) (hle : Fb.le F) (hg : goodL l = true) (ha : -1 ≤ a) (hb0 : 0 ≤ b) (hb : b < l.length) (hln : lineB l a b = true) (hw : 1 ≤ width ∧ width ≤ 1073741824) (hcap : ∀ a n c, v = .slice (some a) n c → n ≤ c) : C Try.prog 29 [v, .int .i64 a, .int .i64 b, .int .i64 width, .int .i64 ag] F (fun u Y => RLn Fb u Y ((l.drop (fromA l (a + 1).toNat b.toNat)).take (b.toNat - fromA l (a + 1).toNat b.toNat)) (at_ l b.toNat) (glueD l (a + 1).toNat b.toNat width ag).1 (width - mW l (a + 1).toNat b.toNat) (glueD l (a + 1).toNat b.toNat width ag).2 ag) := by
  have eb : ((b.toNat : Nat) : Int) = b := by omega
  have := of_C F Fb v l a (a + 1).toNat b.toNat width ag hv hle hg (by omega) (by omega) (by rw [eb]; exact hln) hw hcap
  rwa [eb] at this
theorem argC {f : Value → Value} {a a' : Value} {l l' : List Value} (h1 : f a = a') (h2 : l.map f = l') : (a :: l).map f = a' :: l' := by rw [List.map_cons, h1, h2]
theorem Glue_C (F : Mem) (v : Value) (l : List Item) (a b width al : Int) (hv : RItems F v l) (hcap : ∀ a n c, v = .slice (some a) n c → n ≤ c) : C Try.prog 17 [v, .int .i64 a, .int .i64 b, .int .i64 width, .int .i64 al] F (RedGl (gluT l a b width al)) := by
  obtain ⟨va, vn, vc, hva, rfl⟩ := hv.slq.opq
  have hno : ∀ P : Prop, (lineB l a b = true → mayB width al = true → False) → gluT l a b width al = ([], false) := fun P h => if_neg fun e => h e.1 e.2
  refine C.go hT Try.func17 Try.ntmps17 ?_
  refine sq ?_
  refine rg ?_
  iterate 2 (refine st (h := O) ?_)
  refine nl ?_
  iterate 2 (refine sq ?_)
  refine rg ?_
  iterate 2 (refine st (h := O) ?_)
  refine cl (h := by exact fun ι hV hl => may_C _ _ _) ?_
  iterate 2 (refine st (h := O) ?_)
  refine gB (fun g17 => ?_) (fun g17 => ?_)
  ·refine sp ?_
   iterate 3 (refine sp ?_)
   iterate 2 (refine st (h := O) ?_)
   iterate 3 (refine sp ?_)
   iterate 2 (refine st (h := O) ?_)
   iterate 3 (refine sp ?_)
   iterate 4 (refine su ?_)
   refine sp ?_
   refine st (h := O) ?_
   refine nl ?_
   refine cT ?_
   refine sq ?_
   refine rg ?_
   iterate 2 (refine st (h := O) ?_)
   refine nl ?_
   first
     | (refine rt (RedGl.no (hno True fun h hm => ?_) rfl)
        first
          | (simp [hm] at g17; done)
          | (rw [lineB_iff] at h
             first
               | (simp [h.1] at g23; done)
               | omega
               | (rcases h.2.2 with e | e
                  · omega
                  · simp [e] at c0)))
     | (rw [hok]
        exact rtY (v := .tuple #[.slice ga (glueD l (a + 1).toNat b.toNat width al).1.length gc, .bool (glueD l (a + 1).toNat b.toNat width al).2]) hp1 fun ι hV => ⟨ga, gc, (congrArg (fun z => Value.tuple #[z, .bool (glueD l (a + 1).toNat b.toNat width al).2]) (hix.pl.r ι _ _)), fun G hG => (hR G hG).2.1⟩)
  ·refine sg (h := O) ?_
   refine sg (h := O) ?_
   refine clg (h := by exact fun ι hV hl => (Legal_C _ _ _ _ (hv.le hl)).ofR (arg2 (hva.rV ι _ _) rfl)) ?_
   refine sg (h := O) ?_
   iterate 2 (refine st (h := O) ?_)
   refine gB (fun g23 => ?_) (fun g23 => ?_)
   ·refine sp ?_
    iterate 2 (refine sp ?_)
    iterate 2 (refine st (h := O) ?_)
    iterate 3 (refine sp ?_)
    iterate 4 (refine su ?_)
    refine sp ?_
    refine st (h := O) ?_
    refine nl ?_
    refine cT ?_
    refine sq ?_
    refine rg ?_
    iterate 2 (refine st (h := O) ?_)
    refine nl ?_
    first
      | (refine rt (RedGl.no (hno True fun h hm => ?_) rfl)
         first
           | (simp [hm] at g17; done)
           | (rw [lineB_iff] at h
              first
                | (simp [h.1] at g23; done)
                | omega
                | (rcases h.2.2 with e | e
                   · omega
                   · simp [e] at c0)))
      | (rw [hok]
         exact rtY (v := .tuple #[.slice ga (glueD l (a + 1).toNat b.toNat width al).1.length gc, .bool (glueD l (a + 1).toNat b.toNat width al).2]) hp1 fun ι hV => ⟨ga, gc, (congrArg (fun z => Value.tuple #[z, .bool (glueD l (a + 1).toNat b.toNat width al).2]) (hix.pl.r ι _ _)), fun G hG => (hR G hG).2.1⟩)
   ·refine sg (h := O) ?_
    iterate 2 (refine sg (h := O) ?_)
    iterate 2 (refine st (h := O) ?_)
    refine gD (fun g28 => ?_) (fun g28 => ?_)
    ·refine sp ?_
     iterate 2 (refine sp ?_)
     iterate 4 (refine su ?_)
     refine sp ?_
     refine st (h := O) ?_
     refine nl ?_
     refine cT ?_
     refine sq ?_
     refine rg ?_
     iterate 2 (refine st (h := O) ?_)
     refine nl ?_
     first
       | (refine rt (RedGl.no (hno True fun h hm => ?_) rfl)
          first
            | (simp [hm] at g17; done)
            | (rw [lineB_iff] at h
               first
                 | (simp [h.1] at g23; done)
                 | omega
                 | (rcases h.2.2 with e | e
                    · omega
                    · simp [e] at c0)))
       | (rw [hok]
          exact rtY (v := .tuple #[.slice ga (glueD l (a + 1).toNat b.toNat width al).1.length gc, .bool (glueD l (a + 1).toNat b.toNat width al).2]) hp1 fun ι hV => ⟨ga, gc, (congrArg (fun z => Value.tuple #[z, .bool (glueD l (a + 1).toNat b.toNat width al).2]) (hix.pl.r ι _ _)), fun G hG => (hR G hG).2.1⟩)
    ·refine sg (h := O) ?_
     iterate 2 (refine sg (h := O) ?_)
     refine gN (fun g31 => ?_) (fun g31 => ?_)
     ·refine sg (h := O) ?_
      refine sg (h := O) ?_
      refine clg (h := by exact fun ι hV hl => (Legal_C _ _ _ _ (hv.le hl)).ofR (arg2 (hva.rV ι _ _) rfl)) ?_
      iterate 2 (refine sg (h := O) ?_)
      refine st (h := O) ?_
      refine nl ?_
      refine cB (fun c0 => ?_) (fun c0 => ?_)
      ·refine sq ?_
       refine rg ?_
       iterate 2 (refine st (h := O) ?_)
       refine nl ?_
       first
         | (refine rt (RedGl.no (hno True fun h hm => ?_) rfl)
            first
              | (simp [hm] at g17; done)
              | (rw [lineB_iff] at h
                 first
                   | (simp [h.1] at g23; done)
                   | omega
                   | (rcases h.2.2 with e | e
                      · omega
                      · simp [e] at c0)))
         | (rw [hok]
            exact rtY (v := .tuple #[.slice ga (glueD l (a + 1).toNat b.toNat width al).1.length gc, .bool (glueD l (a + 1).toNat b.toNat width al).2]) hp1 fun ι hV => ⟨ga, gc, (congrArg (fun z => Value.tuple #[z, .bool (glueD l (a + 1).toNat b.toNat width al).2]) (hix.pl.r ι _ _)), fun G hG => (hR G hG).2.1⟩)
      ·refine sk ?_
       refine sq ?_
       have hm : mayB width al = true := by simpa using g17
       have hgb : (goodL l && legalB l b) = true := by simpa using g23
       have hg : goodL l = true := by
         simp only [Bool.and_eq_true] at hgb
         exact hgb.1
       have hln : lineB l a b = true := by
         refine lineB_iff.2 ⟨hgb, by omega, ?_⟩
         first
           | exact .inl (by omega)
           | exact .inr (by simpa using c0)
       have hok : gluT l a b width al = glueD l (a + 1).toNat b.toNat width al := if_pos ⟨hln, hm⟩
       have hlt := lineB_lt hln
       have hm2 := hm
       simp only [mayB, decide_eq_true_eq] at hm2
       refine rg ?_
       iterate 5 (refine st (h := O) ?_)
       refine clC (h := by exact fun ι hV hl => (of_Cb _ F _ l a b width al hv hl hg (by omega) (by omega) (by omega) hln ⟨hm2.1, hm2.2.1⟩ hcap).ofR (argC (hva.rV ι _ _) rfl)) ?_
       intro u1 Y1 hQ1 hv1 hp1 hN1
       obtain ⟨pb, lv, g, ga, gc, rfl, hlv, hgl, hR⟩ := hQ1
       obtain ⟨h16, hix, _⟩ := hR _ hN1.rows
       have q1 : look (F.add Y1) ⟨pb, 0 + 12, none⟩ = some (.slice ga (glueD l (a + 1).toNat b.toNat width al).1.length gc) := lookN_at h16 12 rfl
       have q2 : look (F.add Y1) ⟨pb, 0 + 14, none⟩ = some (.bool (glueD l (a + 1).toNat b.toNat width al).2) := lookN_at h16 14 rfl
       refine st (h := O) ?_
       refine nl ?_
       refine sq ?_
       refine dr 10 [] [0, 1, 2, 3, 4, 5, 6, 7, 8, 9] ?_
       iterate 2 (refine dt (hv := by exact O) ?_)
       refine dt (hv := by exact sdFA) ?_
       refine dt (hv := by exact sdL) ?_
       iterate 2 (refine dt (hv := by exact O) ?_)
       refine dt (hv := by exact sdFA) ?_
       refine dt (hv := by exact sdL) ?_
       iterate 2 (refine dt (hv := by exact O) ?_)
       refine dn ?_
       first
         | (refine rt (RedGl.no (hno True fun h hm => ?_) rfl)
            first
              | (simp [hm] at g17; done)
              | (rw [lineB_iff] at h
                 first
                   | (simp [h.1] at g23; done)
                   | omega
                   | (rcases h.2.2 with e | e
                      · omega
                      · simp [e] at c0)))
         | (rw [hok]
            exact rtY (v := .tuple #[.slice ga (glueD l (a + 1).toNat b.toNat width al).1.length gc, .bool (glueD l (a + 1).toNat b.toNat width al).2]) hp1 fun ι hV => ⟨ga, gc, (congrArg (fun z => Value.tuple #[z, .bool (glueD l (a + 1).toNat b.toNat width al).2]) (hix.pl.r ι _ _)), fun G hG => (hR G hG).2.1⟩)
     ·refine sp ?_
      iterate 3 (refine sp ?_)
      refine sg (h := O) ?_
      refine st (h := O) ?_
      refine nl ?_
      refine cF ?_
      refine sk ?_
      refine sq ?_
      have hm : mayB width al = true := by simpa using g17
      have hgb : (goodL l && legalB l b) = true := by simpa using g23
      have hg : goodL l = true := by
        simp only [Bool.and_eq_true] at hgb
        exact hgb.1
      have hln : lineB l a b = true := by
        refine lineB_iff.2 ⟨hgb, by omega, ?_⟩
        first
          | exact .inl (by omega)
          | exact .inr (by simpa using c0)
      have hok : gluT l a b width al = glueD l (a + 1).toNat b.toNat width al := if_pos ⟨hln, hm⟩
      have hlt := lineB_lt hln
      have hm2 := hm
      simp only [mayB, decide_eq_true_eq] at hm2
      refine rg ?_
      iterate 5 (refine st (h := O) ?_)
      refine clC (h := by exact fun ι hV hl => (of_Cb _ F _ l a b width al hv hl hg (by omega) (by omega) (by omega) hln ⟨hm2.1, hm2.2.1⟩ hcap).ofR (argC (hva.rV ι _ _) rfl)) ?_
      intro u1 Y1 hQ1 hv1 hp1 hN1
      obtain ⟨pb, lv, g, ga, gc, rfl, hlv, hgl, hR⟩ := hQ1
      obtain ⟨h16, hix, _⟩ := hR _ hN1.rows
      have q1 : look (F.add Y1) ⟨pb, 0 + 12, none⟩ = some (.slice ga (glueD l (a + 1).toNat b.toNat width al).1.length gc) := lookN_at h16 12 rfl
      have q2 : look (F.add Y1) ⟨pb, 0 + 14, none⟩ = some (.bool (glueD l (a + 1).toNat b.toNat width al).2) := lookN_at h16 14 rfl
      refine st (h := O) ?_
      refine nl ?_
      refine sq ?_
      refine dr 10 [] [0, 1, 2, 3, 4, 5, 6, 7, 8, 9] ?_
      iterate 2 (refine dt (hv := by exact O) ?_)
      refine dt (hv := by exact sdFA) ?_
      refine dt (hv := by exact sdL) ?_
      iterate 2 (refine dt (hv := by exact O) ?_)
      refine dt (hv := by exact sdFA) ?_
      refine dt (hv := by exact sdL) ?_
      iterate 2 (refine dt (hv := by exact O) ?_)
      refine dn ?_
      first
        | (refine rt (RedGl.no (hno True fun h hm => ?_) rfl)
           first
             | (simp [hm] at g17; done)
             | (rw [lineB_iff] at h
                first
                  | (simp [h.1] at g23; done)
                  | omega
                  | (rcases h.2.2 with e | e
                     · omega
                     · simp [e] at c0)))
        | (rw [hok]
           exact rtY (v := .tuple #[.slice ga (glueD l (a + 1).toNat b.toNat width al).1.length gc, .bool (glueD l (a + 1).toNat b.toNat width al).2]) hp1 fun ι hV => ⟨ga, gc, (congrArg (fun z => Value.tuple #[z, .bool (glueD l (a + 1).toNat b.toNat width al).2]) (hix.pl.r ι _ _)), fun G hG => (hR G hG).2.1⟩)
end Go.Proofs.Ytnkddjdmpnghmaa.Am
namespace Go.Proofs.Ytnkddjdmpnghmaa.Am
set_option linter.unusedSimpArgs false
set_option linter.unusedVariables false
set_option maxRecDepth 100000
set_option maxHeartbeats 4000000
open Go Go.RowKit
def oneD (l : List Item) (a1 b : Nat) (width ag : Int) : Ln :=
  lineS (glueD l a1 b width ag).1 ((l.drop (fromA l a1 b)).take (b - fromA l a1 b)) (at_ l b) (beginD (width - mW l a1 b) ag) (glueD l a1 b width ag).2
def prevA (ats : List Int) : Nat → Int
  | 0 => -1
  | j + 1 => ints ats j
def lnAt (l : List Item) (ats : List Int) (width ag : Int) (j : Nat) : Ln := oneD l (prevA ats j + 1).toNat (ints ats j).toNat width ag
def linesN (l : List Item) (ats : List Int) (width ag : Int) (n : Nat) : List Ln := (List.range n).map (lnAt l ats width ag)
def setD (l : List Item) (ats : List Int) (width ag : Int) : List Ln × Int :=
  if goodL l = false then ([], 220)
  else if (mayB width ag = true ∧ 0 < ats.length ∧ ints ats (ats.length - 1) = (l.length : Int) - 1) ∧ ∀ j, j < ats.length → lineB l (prevA ats j) (ints ats j) = true then (linesN l ats width ag ats.length, 0)
  else ([], 1)
def RedSet (r : List Ln × Int) (v : Value) (Y : List (Nat × Row)) : Prop := ∃ lv, v = .tuple #[lv, .int .i64 r.2] ∧ plain1 lv = true ∧ ∀ G, Rd G Y → RL 3 TLn G lv r.1
theorem linesN_succ (l : List Item) (ats : List Int) (width ag : Int) (n : Nat) : linesN l ats width ag (n + 1) = linesN l ats width ag n ++ [lnAt l ats width ag n] := by
  simp [linesN, List.range_succ]
theorem at_part {l : List Item} {f b i : Nat} (hb : b ≤ l.length) (hi : i < b - f) : at_ ((l.drop f).take (b - f)) i = at_ l (f + i) := by
  simp only [at_, List.getD_eq_getElem?_getD]
  rw [List.getElem?_take, if_pos hi, List.getElem?_drop]
theorem gluL_part {g : Item → Int} {l : List Item} {f b : Nat} (hb : b ≤ l.length) : ∀ {i}, i ≤ b - f → gluL g ((l.drop f).take (b - f)) 0 i = gluL g l f i
  | 0, _ => rfl
  | i + 1, h => by rw [gluL, gluL, gluL_part hb (by omega), Nat.zero_add, at_part hb (by omega)]
theorem part_len {l : List Item} {f b : Nat} (hb : b ≤ l.length) : ((l.drop f).take (b - f)).length = b - f := by rw [List.length_take, List.length_drop]; omega
theorem glueD_len (l : List Item) (a1 b : Nat) (w ag : Int) : (glueD l a1 b w ag).1.length = (glW l a1 b).length := by
  unfold glueD
  split
  · exact giveD_len _ _ _
  · split
    · exact giveD_len _ _ _
    · rfl
theorem giveD_bd {ws ys : List Int} {t sg : Int} (hw : ∀ x ∈ ws, 0 ≤ x ∧ x ≤ 1073741824) (hl : ys.length = ws.length) (hs : sg = 1 ∨ sg = -1) : ∀ x ∈ giveD ws (sharD t ys) sg, -4398046511104 ≤ x ∧ x ≤ 4398046511104 := by
  intro x hx
  generalize ho : sharD t ys = o at hx
  cases o with
  | none => have := hw x hx; omega
  | some s =>
    simp only [giveD, addTo, List.mem_map, List.mem_range] at hx
    obtain ⟨i, hi, rfl⟩ := hx
    have h1 := hw _ (List.mem_of_getElem? (ints_get hi))
    have h2 := sharD_bd ho (j := i) (by omega)
    rw [if_pos hi]
    rcases hs with rfl | rfl <;> omega
theorem glueD_bd {l : List Item} {a1 b : Nat} {w ag : Int} (hg : goodL l = true) (hb : b < l.length) : ∀ x ∈ (glueD l a1 b w ag).1, -4398046511104 ≤ x ∧ x ≤ 4398046511104 := by
  have hf := fromA_le l a1 b
  have oW := gl_mem_ok hg (f := Item.width) (i := fromA l a1 b) (d := b - fromA l a1 b) (by omega) okW
  unfold glueD
  split
  · exact giveD_bd oW (gluL_len _ _ _ _ _) (.inl rfl)
  · split
    · exact giveD_bd oW (gluL_len _ _ _ _ _) (.inr rfl)
    · intro x hx; have := oW x hx; omega
theorem RItems.opl {F : Mem} {v : Value} {l : List Item} (h : RItems F v l) : ∃ a c, PlA a ∧ v = .slice a l.length c := by
  rcases h with ⟨b, o, c, rfl, _⟩ | ⟨rfl, rfl⟩
  · exact ⟨_, c, .inr (.inl ⟨b, o, rfl⟩), rfl⟩
  · exact ⟨none, 0, .inl rfl, rfl⟩
theorem of_set {F G : Mem} {l : List Item} {a1 b : Nat} {width ag : Int} (hg : goodL l = true) (hb : b < l.length) (hw : 1 ≤ width ∧ width ≤ 1073741824) (hgl : ∀ x ∈ l, x.glyphs.length * 8 ≤ 140737488355328) {u : Value} {Y : List (Nat × Row)} (h : RLn F u Y ((l.drop (fromA l a1 b)).take (b - fromA l a1 b)) (at_ l b) (glueD l a1 b width ag).1 (width - mW l a1 b) (glueD l a1 b width ag).2 ag) (hY : Rd G Y) (hle : F.le G) :
    ∃ pb, u = .pointer (some ⟨pb, 0, none⟩) ∧ ∀ H : Mem, G.le H → C Try.prog 30 [.pointer (some ⟨pb, 0, none⟩)] H (fun u Y => ∃ pv, u = .agg ⟨(oneD l a1 b width ag).cells pv⟩ ∧ plain1 pv = true ∧ ∀ G, Rd G Y → RL 7 TPc G pv (oneD l a1 b width ag).pieces) := by
  obtain ⟨pb, lv, g, ga, gc, rfl, hlv, hgl2, hR⟩ := h
  obtain ⟨h16, hix, hgc⟩ := hR _ hY
  refine ⟨pb, rfl, fun H hH => ?_⟩
  have hlen := good_len hg
  have hpl := part_len (l := l) (f := fromA l a1 b) (b := b) (by omega)
  have hm := mW_bd hg (a1 := a1) hb
  refine set_C H pb lv _ _ g ga gc _ _ _ ag ((hlv.le hle).le hH) ((hgl2.le hle).le hH) (look_le_N hH _ _ _ h16) (hix.le hH) hgc ?_ ?_ (good_ok hg (by omega)) (glueD_bd hg hb) (by omega) (by omega) (fun x hx => hgl x (List.mem_of_mem_drop (List.mem_of_mem_take hx))) (hgl _ (List.mem_of_getElem? (at_get hb)))
  · rw [hpl, gluL_part (by omega) (Nat.le_refl _), glueD_len]; rfl
  · intro i hi
    rw [at_part (by omega) (by omega)]
    exact good_ok hg (by omega)
theorem Set_C (F : Mem) (v : Value) (ab : Option Addr) (ac : Nat) (l : List Item) (ats : List Int) (width ag : Int) (hv : RItems F v l) (hax : RIx F ab ats) (hcap : ∀ a n c, v = .slice (some a) n c → n ≤ c) (hgl : ∀ x ∈ l, x.glyphs.length * 8 ≤ 140737488355328) (hal : ats.length ≤ 100000) : C Try.prog 12 [v, .slice ab ats.length ac, .int .i64 width, .int .i64 ag] F (RedSet (setD l ats width ag)) := by
  obtain ⟨vb, vc, hvb, rfl⟩ := hv.opl
  have h220 : goodL l = false → setD l ats width ag = ([], 220) := fun h => if_pos h
  have hno : goodL l = true → ¬ ((mayB width ag = true ∧ 0 < ats.length ∧ ints ats (ats.length - 1) = (l.length : Int) - 1) ∧ ∀ j, j < ats.length → lineB l (prevA ats j) (ints ats j) = true) → setD l ats width ag = ([], 1) := fun h h2 => by
    unfold setD
    rw [if_neg (by rw [h]; decide), if_neg h2]
  have hE : RedSet ([], 1) (.tuple #[.slice none 0 0, .int .i64 1]) [] := ⟨_, rfl, rfl, fun G hG => RL.nil _⟩
  refine C.go hT Try.func12 Try.ntmps12 ?_
  refine sq ?_
  refine rg ?_
  iterate 2 (refine st (h := O) ?_)
  refine nl ?_
  iterate 2 (refine sq ?_)
  refine rg ?_
  refine st (h := O) ?_
  refine cl (h := by exact fun ι hV hl => (IGood_C _ _ l (hv.le hl)).ofR (arg1 (hvb.rV ι _ _))) ?_
  refine st (h := O) ?_
  refine nl ?_
  refine cB (fun c0 => ?_) (fun c0 => ?_)
  ·refine sq ?_
   refine rg ?_
   iterate 2 (refine st (h := O) ?_)
   refine nl ?_
   rw [h220 (by simpa using c0)]
   exact rt ⟨_, rfl, rfl, fun G hG => RL.nil _⟩
  ·have hg : goodL l = true := by simpa using c0
   have hlen := good_len hg
   obtain ⟨yb, yo, rfl⟩ : ∃ b o, vb = some ⟨b, o, none⟩ := by
     rcases hv with ⟨b, o, c, e, _⟩ | ⟨_, rfl⟩
     · simp only [Value.slice.injEq] at e
       exact ⟨b, o, e.1⟩
     · exact absurd hg (by decide)
   refine sk ?_
   iterate 2 (refine sq ?_)
   refine rg ?_
   iterate 2 (refine st (h := O) ?_)
   refine cl (h := by exact fun ι hV hl => may_C _ _ _) ?_
   iterate 2 (refine st (h := O) ?_)
   refine gB (fun g23 => ?_) (fun g23 => ?_)
   ·refine sp ?_
    iterate 2 (refine sp ?_)
    iterate 2 (refine st (h := O) ?_)
    iterate 10 (refine sp ?_)
    refine st (h := O) ?_
    refine nl ?_
    refine cT ?_
    refine sq ?_
    refine rg ?_
    iterate 2 (refine st (h := O) ?_)
    refine nl ?_
    rw [hno hg (fun h => by simp [h.1.1] at g23)]
    exact rt hE
   ·refine sg (h := O) ?_
    iterate 2 (refine sg (h := O) ?_)
    iterate 2 (refine st (h := O) ?_)
    refine gD (fun g28 => ?_) (fun g28 => ?_)
    ·refine sp ?_
     iterate 9 (refine sp ?_)
     refine st (h := O) ?_
     refine nl ?_
     refine cT ?_
     refine sq ?_
     refine rg ?_
     iterate 2 (refine st (h := O) ?_)
     refine nl ?_
     rw [hno hg (fun h => by have := h.1.2.1; omega)]
     exact rt hE
    ·have hm : mayB width ag = true := by simpa using g23
     obtain ⟨xb, xo, rfl, har⟩ := hax.rd (by omega)
     have har' : ∀ i, i < ats.length → look F ⟨xb, xo + i, none⟩ = some (.int .i64 (ints ats i)) := fun i hi => har i _ (ints_get hi)
     have q1 : look F ⟨xb, xo + ((ats.length : Int) - 1).toNat * 1, none⟩ = some (.int .i64 (ints ats (ats.length - 1))) := by
       rw [← har' (ats.length - 1) (by omega)]
       congr 2
       omega
     iterate 3 (refine sg (h := O) ?_)
     refine sg (h := sdS) ?_
     refine sg (h := (sdX (z := 1))) ?_
     refine sg (h := (by first | exact sdLG | exact sdW)) ?_
     iterate 2 (refine sg (h := O) ?_)
     refine sg (h := sdS) ?_
     refine sg (h := O) ?_
     refine st (h := O) ?_
     refine nl ?_
     refine cN (fun c1 => ?_) (fun c1 => ?_)
     ·refine sq ?_
      refine rg ?_
      iterate 2 (refine st (h := O) ?_)
      refine nl ?_
      rw [hno hg (fun h => by have := h.1.2.2; omega)]
      exact rt hE
     ·have hm2 := hm
      simp only [mayB, decide_eq_true_eq] at hm2
      refine sk ?_
      refine sq ?_
      refine rg ?_
      refine st (h := O) ?_
      refine nl ?_
      iterate 2 (refine sq ?_)
      refine rg ?_
      iterate 3 (refine st (h := O) ?_)
      refine nl ?_
      refine bl ?_
      refine J.loop1 (α := Nat) (fun i => i ≤ ats.length ∧ ∀ j, j < i → lineB l (prevA ats j) (ints ats j) = true) (fun i => [(10, .int .i64 (prevA ats i)), (42, .int .i64 i)]) [(0, _), (1, _), (2, _), (3, _), (40, _), (41, _)] (fun i => []) [] (fun i => ats.length - i) (0) (by exact ⟨rfl, rfl, trivial⟩) (by exact ⟨rfl, rfl, rfl, rfl, rfl, rfl, trivial⟩) (by exact trivial) ?_ ?_
      · exact ⟨Nat.zero_le _, fun j hj => absurd hj (Nat.not_lt_zero _)⟩
      ·intro i L1 K1 e1 e2 hI
       dsimp only [apV, apR, List.cons_append, List.nil_append] at e1 e2
       subst e1 e2
       obtain ⟨hi, hch⟩ := hI
       refine sq ?_
       refine rg ?_
       refine st (h := O) ?_
       refine nl ?_
       refine sq ?_
       refine cD (fun c2 => ?_) (fun c2 => ?_)
       ·have hil : i < ats.length := by omega
        have q2 : look F ⟨xb, xo + (i : Int).toNat * 1, none⟩ = some (.int .i64 (ints ats i)) := by
          rw [Int.toNat_natCast, Nat.mul_one]
          exact har' i hil
        have hpv : prevA ats i = -1 ∨ (goodL l && legalB l (prevA ats i)) = true := by
          cases i with
          | zero => exact .inl rfl
          | succ i => exact .inr (lineB_iff.1 (hch i (by omega))).1
        refine sk ?_
        refine sq ?_
        refine bl ?_
        refine sq ?_
        refine rg ?_
        refine st (h := (sdX (z := 1))) ?_
        refine st (h := (by first | exact sdLG | exact sdW)) ?_
        refine st (h := O) ?_
        refine nl ?_
        iterate 2 (refine sq ?_)
        refine rg ?_
        iterate 4 (refine st (h := O) ?_)
        refine gD (fun g49 => ?_) (fun g49 => ?_)
        ·refine sp ?_
         iterate 3 (refine sp ?_)
         refine st (h := O) ?_
         refine nl ?_
         refine cT ?_
         refine sq ?_
         refine rg ?_
         iterate 2 (refine st (h := O) ?_)
         refine nl ?_
         rw [hno hg (fun h => by have := (lineB_iff.1 (h.2 i hil)).2.1; omega)]
         exact rt hE
        ·refine sg (h := O) ?_
         refine sg (h := O) ?_
         refine clg (h := by exact fun ι hV hl => (Legal_C _ _ l _ (hv.le hl)).ofR (arg2 (hvb.rV ι _ _) rfl)) ?_
         refine sg (h := O) ?_
         refine st (h := O) ?_
         refine nl ?_
         refine cB (fun c3 => ?_) (fun c3 => ?_)
         ·refine sq ?_
          refine rg ?_
          iterate 2 (refine st (h := O) ?_)
          refine nl ?_
          rw [hno hg (fun h => by
            have := lineB_iff.1 (h.2 i hil)
            first
              | (have := this.2.1; omega)
              | simp [this.1] at c3)]
          exact rt hE
         ·refine sk ?_
          refine rg ?_
          iterate 2 (refine st (h := O) ?_)
          refine nl ?_
          refine bk ?_
          refine rg ?_
          refine st (h := sdA) ?_
          refine st (h := O) ?_
          refine nl ?_
          refine bk1 (i + 1) (by exact ⟨rfl, rfl, trivial⟩) (by exact ⟨rfl, rfl, rfl, rfl, rfl, rfl, trivial⟩) (by exact trivial) ?_ ?_
          · omega
          · refine ⟨by omega, fun j hj => ?_⟩
            rcases Nat.lt_or_ge j i with h | h
            · exact hch j h
            · obtain rfl : j = i := by omega
              exact lineB_iff.2 ⟨by simpa using c3, by omega, hpv⟩
       ·obtain rfl : i = ats.length := by omega
        have hS : setD l ats width ag = (linesN l ats width ag ats.length, 0) := by
          unfold setD
          rw [if_neg (by rw [hg]; decide), if_pos ⟨⟨hm, by omega, by omega⟩, hch⟩]
        refine ex ?_
        refine sq ?_
        refine rg ?_
        refine st (h := O) ?_
        refine nl ?_
        refine sq ?_
        refine rg ?_
        refine st (h := O) ?_
        refine nl ?_
        iterate 2 (refine sq ?_)
        refine rg ?_
        iterate 3 (refine st (h := O) ?_)
        refine nl ?_
        refine bl ?_
        refine J.gloop4 (α := Option Nat) (β := Nat) (γ := Nat) (δ := List Value) (fun Y o m i cs => i ≤ ats.length ∧ m = i ∧ apB o m ∧ LR 3 TLn Y (linesN l ats width ag i) cs) (fun o m i cs => [(10, .int .i64 (prevA ats i)), (13, apV 72 o m), (59, .int .i64 i)]) [(0, _), (2, _), (3, _), (57, _), (58, _)] (fun o m i cs => apR 72 47 3 true o cs ++ []) [] (fun o m i cs => ats.length - i) (none) (0) (0) ([]) (by exact ⟨rfl, rfl, rfl, trivial⟩) (by exact ⟨rfl, rfl, rfl, rfl, rfl, trivial⟩) (by exact (by repeat' first | exact trivial | refine And.intro rfl ?_)) ?_ ?_
        · exact ⟨Nat.zero_le _, rfl, rfl, LR.nil _⟩
        ·intro Y o m i cs L1 K1 e1 e2 hI hY hN
         rcases o with _ | cap_o
         all_goals
          dsimp only [apV, apR, List.cons_append, List.nil_append] at e1 e2
          subst e1 e2
          obtain ⟨hi, hmi, hap, hLR⟩ := hI
          simp only [apB] at hap
          try (obtain rfl : m = 0 := hap)
          have hLl := hLR.len
          have hnl : (linesN l ats width ag i).length = i := by simp [linesN]
          rw [hnl] at hLl
          try (have hz : cs.length = 0 := by omega
               have hz2 := List.eq_nil_of_length_eq_zero hz
               subst hz2)
          refine sq ?_
          refine rg ?_
          refine st (h := O) ?_
          refine nl ?_
          refine sq ?_
          refine cD (fun c4 => ?_) (fun c4 => ?_)
          ·have hil : i < ats.length := by omega
           have q3 : look (F.add Y) ⟨xb, xo + (i : Int).toNat * 1, none⟩ = some (.int .i64 (ints ats i)) := by
             rw [Int.toNat_natCast, Nat.mul_one]
             exact hN.le _ _ (har' i hil)
           have hln := hch i hil
           have hlt := lineB_facts hln
           refine sk ?_
           refine sq ?_
           refine bl ?_
           refine sq ?_
           refine rg ?_
           refine st (h := (sdX (z := 1))) ?_
           refine st (h := (by first | exact sdLG | exact sdW)) ?_
           refine st (h := O) ?_
           refine nl ?_
           refine sq ?_
           refine rg ?_
           iterate 6 (refine st (h := O) ?_)
           refine clC (h := by exact fun ι hV hl => (of_Cb _ F _ l (prevA ats i) (ints ats i) width ag hv (fun _ _ h => hl _ _ (hN.le _ _ h)) hg (by omega) (by omega) (by omega) hln ⟨hm2.1, hm2.2.1⟩ hcap).ofR (argC (hvb.rV ι _ _) rfl)) ?_
           intro u1 Y1 hQ1 hv1 hp1 hN1
           obtain ⟨pb, rfl, hset⟩ := of_set (G := (F.add Y).add Y1) hg (by omega) ⟨hm2.1, hm2.2.1⟩ hgl hQ1 hN1.rows (fun _ _ h => hN1.le _ _ (hN.le _ _ h))
           refine clC (h := by exact fun ι hV hl => hset _ hl) ?_
           intro u2 Y2 hQ2 hv2 hp2 hN2
           obtain ⟨pv, rfl, hpv, hR2⟩ := hQ2
           have h2 := hR2 _ hN2.rows
           rcases h2 with ⟨qb, qo, qc, rfl, _⟩ | ⟨rfl, _⟩
           ·
            refine sl ?_
            first | refine apN (news := [_, _, _]) 72 true [(0, _), (2, _), (3, _), (15, _), (57, _), (58, _), (59, _)] [] ?_ | refine apO (news := [_, _, _]) 1072 72 [(0, _), (2, _), (3, _), (15, _), (57, _), (58, _), (59, _)] [] ?_
            intro cap72 hc72 hd72
            refine st (h := O) ?_
            refine nl ?_
            refine rg ?_
            iterate 2 (refine st (h := O) ?_)
            refine nl ?_
            refine bk ?_
            refine rg ?_
            refine st (h := sdA) ?_
            refine st (h := O) ?_
            refine nl ?_
            refine gbk4 ((Y2 ++ Y1) ++ Y) (some _) (_) (i + 1) (_) (by exact ⟨rfl, rfl, rfl, trivial⟩) (by exact ⟨rfl, rfl, rfl, rfl, rfl, trivial⟩) (by exact (by repeat' first | exact trivial | refine And.intro rfl ?_)) (by rw [add_add, add_add, List.append_assoc]) ?_ ?_ ?_
            · exact PlainRows.app hY (PlainRows.app hp1 hp2)
            · omega
            · refine ⟨by omega, by omega, ⟨by omega, by omega⟩, ?_⟩
              rw [linesN_succ]
              exact LR.snoc (Z := Y2 ++ Y1) hLR rfl (fun v hv => by simp only [Ln.cells, List.mem_cons, List.not_mem_nil, or_false] at hv; rcases hv with rfl | rfl | rfl <;> rfl) fun G hG => ⟨_, rfl, hR2 G hG.app_left.app_left⟩
           ·
            refine sl ?_
            first | refine apN (news := [_, _, _]) 72 true [(0, _), (2, _), (3, _), (15, _), (57, _), (58, _), (59, _)] [] ?_ | refine apO (news := [_, _, _]) 1072 72 [(0, _), (2, _), (3, _), (15, _), (57, _), (58, _), (59, _)] [] ?_
            intro cap72 hc72 hd72
            refine st (h := O) ?_
            refine nl ?_
            refine rg ?_
            iterate 2 (refine st (h := O) ?_)
            refine nl ?_
            refine bk ?_
            refine rg ?_
            refine st (h := sdA) ?_
            refine st (h := O) ?_
            refine nl ?_
            refine gbk4 ((Y2 ++ Y1) ++ Y) (some _) (_) (i + 1) (_) (by exact ⟨rfl, rfl, rfl, trivial⟩) (by exact ⟨rfl, rfl, rfl, rfl, rfl, trivial⟩) (by exact (by repeat' first | exact trivial | refine And.intro rfl ?_)) (by rw [add_add, add_add, List.append_assoc]) ?_ ?_ ?_
            · exact PlainRows.app hY (PlainRows.app hp1 hp2)
            · omega
            · refine ⟨by omega, by omega, ⟨by omega, by omega⟩, ?_⟩
              rw [linesN_succ]
              exact LR.snoc (Z := Y2 ++ Y1) hLR rfl (fun v hv => by simp only [Ln.cells, List.mem_cons, List.not_mem_nil, or_false] at hv; rcases hv with rfl | rfl | rfl <;> rfl) fun G hG => ⟨_, rfl, hR2 G hG.app_left.app_left⟩
          ·obtain rfl : i = ats.length := by omega
           rw [hS]
           refine ex ?_
           refine sq ?_
           refine rg ?_
           iterate 3 (refine st (h := O) ?_)
           refine nl ?_
           first
             | (exfalso; omega)
             | exact rtY hY fun ι hV => ⟨.slice (some ⟨ι 72, 0, none⟩) m cap_o, rfl, rfl, fun G hG => hLR.readO (Z := []) rfl hG (by rw [hnl]; exact hmi) hap.1 hap.2⟩
end Go.Proofs.Ytnkddjdmpnghmaa.Am
namespace Go.Proofs.Ytnkddjdmpnghmaa.Am
set_option linter.unusedSimpArgs false
set_option linter.unusedVariables false
set_option maxRecDepth 100000
set_option maxHeartbeats 4000000
open Go Go.RowKit
deriving instance DecidableEq for Pc
deriving instance DecidableEq for Ln
theorem Pc.ext' {x y : Pc} (h1 : x.x = y.x) (h2 : x.width = y.width) (h3 : x.font = y.font) (h4 : x.size = y.size) (h5 : x.link = y.link) (h6 : x.run = y.run) (h7 : x.glyphs = y.glyphs) : x = y := by
  cases x; cases y; subst h1 h2 h3 h4 h5 h6 h7; rfl
theorem Ln.ext' {x y : Ln} (h1 : x.width = y.width) (h2 : x.over = y.over) (h3 : x.pieces = y.pieces) : x = y := by
  cases x; cases y; subst h1 h2 h3; rfl
theorem pc_at {F : Mem} {v : Value} {ps : List Pc} (h : RL 7 TPc F v ps) : ∃ a c, PlA a ∧ v = .slice a ps.length c ∧ ps.length ≤ 9223372036854775807 ∧ ∀ i, i < ps.length → ∃ b o p ga gc, a = some ⟨b, o, none⟩ ∧ ps[i]? = some p ∧ lookN F ⟨b, o + i * 7, none⟩ 7 = some (p.cells (.slice ga p.glyphs.length gc)) ∧ PlA ga ∧ RInts F (.slice ga p.glyphs.length gc) p.glyphs := by
  obtain ⟨a, c, ha, rfl, h1, h2, hr⟩ := h.opq
  refine ⟨a, c, ha, rfl, by omega, fun i hi => ?_⟩
  obtain ⟨b, o, rfl, hrq⟩ := hr (by omega)
  obtain ⟨cs, h1, g, rfl, hg⟩ := hrq i _ (List.getElem?_eq_getElem hi)
  obtain ⟨ga, gc, rfl, hx⟩ := RIx.ofInts hg
  exact ⟨b, o, _, ga, gc, rfl, List.getElem?_eq_getElem hi, h1, hx.pl, hg⟩
theorem SameLine_C (F : Mem) (x y : Ln) (p q : Value) (hp : RL 7 TPc F p x.pieces) (hq : RL 7 TPc F q y.pieces) : C0 Try.prog 34 [.agg ⟨x.cells p⟩, .agg ⟨y.cells q⟩] F (.bool (decide (x = y))) := by
  obtain ⟨pa, pc, hpa, rfl, hp63, hpr⟩ := pc_at hp
  obtain ⟨qa, qc, hqa, rfl, hq63, hqr⟩ := pc_at hq
  have hE : ∀ {P : Prop} [Decidable P], ¬ P → (Value.bool false = .bool (decide P)) := fun h => by rw [decide_eq_false h]
  refine C.go hT Try.func34 Try.ntmps34 ?_
  refine sq ?_
  refine rg ?_
  refine bx (hL := by simp [ntL, ntV, nt2, argL, Ln.cells, nt1_i, nt1_b, hpa.nt, hqa.nt]) ?_
  refine bx (hL := by simp [ntL, ntV, nt2, argL, Ln.cells, nt1_i, nt1_b, nt1_o, nt1_p, hpa.nt, hqa.nt]) (hK := by simp [ntK, cellsL, Ln.cells, nt1_i, nt1_b, hpa.nt, hqa.nt]) ?_
  refine st (h := O) ?_
  refine nl ?_
  iterate 2 (refine sq ?_)
  refine rg ?_
  refine st (h := sdFA) ?_
  refine st (h := sdL) ?_
  refine st (h := sdFA) ?_
  refine st (h := sdL) ?_
  iterate 2 (refine st (h := O) ?_)
  refine gN (fun g13 => ?_) (fun g13 => ?_)
  ·refine sp ?_
   iterate 4 (refine sp ?_)
   iterate 2 (refine st (h := O) ?_)
   iterate 7 (refine sp ?_)
   refine st (h := O) ?_
   refine nl ?_
   refine cT ?_
   refine sq ?_
   refine rg ?_
   refine st (h := O) ?_
   refine nl ?_
   exact rt ⟨hE fun h => g13 (by rw [h]), rfl⟩
  ·refine sg (h := sdFA) ?_
   refine sg (h := sdL) ?_
   refine sg (h := sdFA) ?_
   refine sg (h := sdL) ?_
   refine sg (h := sbNe) ?_
   iterate 2 (refine st (h := O) ?_)
   refine gB (fun g20 => ?_) (fun g20 => ?_)
   ·refine sp ?_
    iterate 6 (refine sp ?_)
    refine st (h := O) ?_
    refine nl ?_
    refine cT ?_
    refine sq ?_
    refine rg ?_
    refine st (h := O) ?_
    refine nl ?_
    exact rt ⟨hE fun h => by rw [h] at g20; simp at g20, rfl⟩
   ·refine sg (h := sdFA) ?_
    refine sg (h := sdL) ?_
    refine sg (h := O) ?_
    refine sg (h := sdFA) ?_
    refine sg (h := sdL) ?_
    iterate 2 (refine sg (h := O) ?_)
    refine st (h := O) ?_
    refine nl ?_
    refine cN (fun c0 => ?_) (fun c0 => ?_)
    ·refine sq ?_
     refine rg ?_
     refine st (h := O) ?_
     refine nl ?_
     exact rt ⟨hE fun h => c0 (by rw [h]), rfl⟩
    ·have hov : x.over = y.over := by simpa using g20
     refine sk ?_
     iterate 2 (refine sq ?_)
     refine rg ?_
     refine st (h := O) ?_
     refine nl ?_
     refine bl ?_
     refine J.loop1 (α := Nat) (fun i => i ≤ x.pieces.length ∧ ∀ j, j < i → x.pieces[j]? = y.pieces[j]?) (fun i => [(5, .int .i64 i)]) [(2, _), (3, _)] (fun i => []) [(3, _), (2, _)] (fun i => x.pieces.length - i) (0) (by exact ⟨rfl, trivial⟩) (by exact ⟨rfl, rfl, trivial⟩) (by exact ⟨rfl, rfl, rfl, rfl, trivial⟩) ?_ ?_
     · exact ⟨Nat.zero_le _, fun j hj => absurd hj (Nat.not_lt_zero _)⟩
     ·intro i L1 K1 e1 e2 hI
      dsimp only [apV, apR, List.cons_append, List.nil_append] at e1 e2
      subst e1 e2
      obtain ⟨hi, hch⟩ := hI
      iterate 2 (refine sq ?_)
      refine rg ?_
      refine st (h := O) ?_
      refine st (h := sdFA) ?_
      refine st (h := sdL) ?_
      iterate 2 (refine st (h := O) ?_)
      refine nl ?_
      refine cD (fun c1 => ?_) (fun c1 => ?_)
      ·have hil : i < x.pieces.length := by omega
       obtain ⟨pb, po, px, ga1, gc1, rfl, hpx, hp7, hl1, hi1⟩ := hpr i hil
       obtain ⟨qb, qo, qx, ga2, gc2, rfl, hqx, hq7, hl2, hi2⟩ := hqr i (by omega)
       rw [show po + i * 7 = po + (i : Int).toNat * 7 from rfl] at hp7
       rw [show qo + i * 7 = qo + (i : Int).toNat * 7 from rfl] at hq7
       have hne : px ≠ qx → x ≠ y := fun h e => h (by subst e; rw [hpx] at hqx; exact Option.some.inj hqx)
       refine sk ?_
       refine sq ?_
       refine bl ?_
       refine sq ?_
       refine dr 14 [3, 2] [0, 1, 2, 3, 4, 5, 6, 7, 8, 9, 5004] ?_
       refine dt (hv := by exact sdFA) ?_
       refine dt (hv := by exact sdL) ?_
       refine dt (hv := by exact O) ?_
       refine dt (hv := by exact (sdX (z := 7))) ?_
       refine dt (hv := by exact sdLN (hv := by exact hp7)) ?_
       refine dt (hv := by exact sdFA) ?_
       refine dt (hv := by exact sdL) ?_
       refine dt (hv := by exact O) ?_
       refine dt (hv := by exact (sdX (z := 7))) ?_
       refine dt (hv := by exact sdLN (hv := by exact hq7)) ?_
       refine JD.alt (i := 10) (j := 11) [1011, 1012, 1013] [1010, 1012, 1013] ?_ ?_
       ·refine jal (hkp := by first | exact Kept.all | exact Kept.k0 | exact Kept.kY | exact Kept.kYY | exact Kept.kY3) (hL := by simp [ntL, ntV, nt2, argL, Pc.cells, nt1_i, nt1_b, nt1_o, nt1_p, nt1_w, nt1_pv, nt1_n, hl1.nt, hl2.nt]) (hK := by simp [ntK, cellsL, putL, Pc.cells, Ln.cells, nt1_i, nt1_b, nt1_o, nt1_p, nt1_w, nt1_pv, nt1_n, hl1.nt, hl2.nt, setK]) ?_
        refine dal (hkp := by first | exact Kept.all | exact Kept.k0 | exact Kept.kY | exact Kept.kYY | exact Kept.kY3) (hL := by simp [ntL, ntV, nt2, argL, Pc.cells, nt1_i, nt1_b, nt1_o, nt1_p, nt1_w, nt1_pv, nt1_n, hl1.nt, hl2.nt]) (hK := by simp [ntK, cellsL, putL, Pc.cells, Ln.cells, nt1_i, nt1_b, nt1_o, nt1_p, nt1_w, nt1_pv, nt1_n, hl1.nt, hl2.nt, setK]) ?_
        iterate 2 (refine dso (hkp := by first | exact Kept.all | exact Kept.k0 | exact Kept.kY | exact Kept.kYY | exact Kept.kY3) ?_)
        refine dn ?_
        refine sq ?_
        refine rg ?_
        refine st (h := sdFA) ?_
        refine st (h := sdL) ?_
        refine st (h := sdFA) ?_
        refine st (h := sdL) ?_
        iterate 2 (refine st (h := O) ?_)
        refine gN (fun g51 => ?_) (fun g51 => ?_)
        ·refine sp ?_
         iterate 4 (refine sp ?_)
         iterate 2 (refine st (h := O) ?_)
         iterate 5 (refine sp ?_)
         iterate 2 (refine st (h := O) ?_)
         iterate 5 (refine sp ?_)
         iterate 2 (refine st (h := O) ?_)
         iterate 5 (refine sp ?_)
         iterate 2 (refine st (h := O) ?_)
         iterate 5 (refine sp ?_)
         iterate 2 (refine st (h := O) ?_)
         iterate 6 (refine sp ?_)
         refine st (h := O) ?_
         refine nl ?_
         refine cT ?_
         refine sq ?_
         refine rg ?_
         refine st (h := O) ?_
         refine nl ?_
         exact rt ⟨hE (hne fun h => by subst h; first | exact g51 rfl | exact g58 rfl | exact g65 rfl | exact g72 rfl | exact g79 rfl | exact g86 rfl | (simp at c2)), rfl⟩
        ·refine sg (h := sdFA) ?_
         refine sg (h := sdL) ?_
         refine sg (h := sdFA) ?_
         refine sg (h := sdL) ?_
         refine sg (h := O) ?_
         iterate 2 (refine st (h := O) ?_)
         refine gN (fun g58 => ?_) (fun g58 => ?_)
         ·refine sp ?_
          iterate 4 (refine sp ?_)
          iterate 2 (refine st (h := O) ?_)
          iterate 5 (refine sp ?_)
          iterate 2 (refine st (h := O) ?_)
          iterate 5 (refine sp ?_)
          iterate 2 (refine st (h := O) ?_)
          iterate 5 (refine sp ?_)
          iterate 2 (refine st (h := O) ?_)
          iterate 6 (refine sp ?_)
          refine st (h := O) ?_
          refine nl ?_
          refine cT ?_
          refine sq ?_
          refine rg ?_
          refine st (h := O) ?_
          refine nl ?_
          exact rt ⟨hE (hne fun h => by subst h; first | exact g51 rfl | exact g58 rfl | exact g65 rfl | exact g72 rfl | exact g79 rfl | exact g86 rfl | (simp at c2)), rfl⟩
         ·refine sg (h := sdFA) ?_
          refine sg (h := sdL) ?_
          refine sg (h := sdFA) ?_
          refine sg (h := sdL) ?_
          refine sg (h := O) ?_
          iterate 2 (refine st (h := O) ?_)
          refine gN (fun g65 => ?_) (fun g65 => ?_)
          ·refine sp ?_
           iterate 4 (refine sp ?_)
           iterate 2 (refine st (h := O) ?_)
           iterate 5 (refine sp ?_)
           iterate 2 (refine st (h := O) ?_)
           iterate 5 (refine sp ?_)
           iterate 2 (refine st (h := O) ?_)
           iterate 6 (refine sp ?_)
           refine st (h := O) ?_
           refine nl ?_
           refine cT ?_
           refine sq ?_
           refine rg ?_
           refine st (h := O) ?_
           refine nl ?_
           exact rt ⟨hE (hne fun h => by subst h; first | exact g51 rfl | exact g58 rfl | exact g65 rfl | exact g72 rfl | exact g79 rfl | exact g86 rfl | (simp at c2)), rfl⟩
          ·refine sg (h := sdFA) ?_
           refine sg (h := sdL) ?_
           refine sg (h := sdFA) ?_
           refine sg (h := sdL) ?_
           refine sg (h := O) ?_
           iterate 2 (refine st (h := O) ?_)
           refine gN (fun g72 => ?_) (fun g72 => ?_)
           ·refine sp ?_
            iterate 4 (refine sp ?_)
            iterate 2 (refine st (h := O) ?_)
            iterate 5 (refine sp ?_)
            iterate 2 (refine st (h := O) ?_)
            iterate 6 (refine sp ?_)
            refine st (h := O) ?_
            refine nl ?_
            refine cT ?_
            refine sq ?_
            refine rg ?_
            refine st (h := O) ?_
            refine nl ?_
            exact rt ⟨hE (hne fun h => by subst h; first | exact g51 rfl | exact g58 rfl | exact g65 rfl | exact g72 rfl | exact g79 rfl | exact g86 rfl | (simp at c2)), rfl⟩
           ·refine sg (h := sdFA) ?_
            refine sg (h := sdL) ?_
            refine sg (h := sdFA) ?_
            refine sg (h := sdL) ?_
            refine sg (h := O) ?_
            iterate 2 (refine st (h := O) ?_)
            refine gN (fun g79 => ?_) (fun g79 => ?_)
            ·refine sp ?_
             iterate 4 (refine sp ?_)
             iterate 2 (refine st (h := O) ?_)
             iterate 6 (refine sp ?_)
             refine st (h := O) ?_
             refine nl ?_
             refine cT ?_
             refine sq ?_
             refine rg ?_
             refine st (h := O) ?_
             refine nl ?_
             exact rt ⟨hE (hne fun h => by subst h; first | exact g51 rfl | exact g58 rfl | exact g65 rfl | exact g72 rfl | exact g79 rfl | exact g86 rfl | (simp at c2)), rfl⟩
            ·refine sg (h := sdFA) ?_
             refine sg (h := sdL) ?_
             refine sg (h := sdFA) ?_
             refine sg (h := sdL) ?_
             refine sg (h := O) ?_
             iterate 2 (refine st (h := O) ?_)
             refine gN (fun g86 => ?_) (fun g86 => ?_)
             ·refine sp ?_
              iterate 5 (refine sp ?_)
              refine st (h := O) ?_
              refine nl ?_
              refine cT ?_
              refine sq ?_
              refine rg ?_
              refine st (h := O) ?_
              refine nl ?_
              exact rt ⟨hE (hne fun h => by subst h; first | exact g51 rfl | exact g58 rfl | exact g65 rfl | exact g72 rfl | exact g79 rfl | exact g86 rfl | (simp at c2)), rfl⟩
             ·refine sg (h := sdFA) ?_
              refine sg (h := sdL) ?_
              refine sg (h := sdFA) ?_
              refine sg (h := sdL) ?_
              refine clg (h := by exact fun ι hV hl => (Same_C _ _ _ px.glyphs qx.glyphs (hi1.le hl) (hi2.le hl)).ofR (arg2 (hl1.rV ι _ _) (hl2.rV ι _ _))) ?_
              refine sg (h := O) ?_
              refine st (h := O) ?_
              refine nl ?_
              refine cB (fun c2 => ?_) (fun c2 => ?_)
              ·refine sq ?_
               refine rg ?_
               refine st (h := O) ?_
               refine nl ?_
               exact rt ⟨hE (hne fun h => by subst h; first | exact g51 rfl | exact g58 rfl | exact g65 rfl | exact g72 rfl | exact g79 rfl | exact g86 rfl | (simp at c2)), rfl⟩
              ·refine sk ?_
               refine bk ?_
               refine rg ?_
               refine st (h := O) ?_
               refine st (h := sdA) ?_
               refine st (h := O) ?_
               refine nl ?_
               refine bk1 (i + 1) (by exact ⟨rfl, trivial⟩) (by exact ⟨rfl, rfl, trivial⟩) (by exact ⟨rfl, rfl, rfl, rfl, trivial⟩) ?_ ?_
               · omega
               · refine ⟨by omega, fun j hj => ?_⟩
                 rcases Nat.lt_or_ge j i with h | h
                 · exact hch j h
                 · obtain rfl : j = i := by omega
                   have hgl : px.glyphs = qx.glyphs := by simpa using c2
                   rw [hpx, hqx, Pc.ext' g51 g58 g65 g72 g79 g86 hgl]
       ·refine jal (hkp := by first | exact Kept.all | exact Kept.k0 | exact Kept.kY | exact Kept.kYY | exact Kept.kY3) (hL := by simp [ntL, ntV, nt2, argL, Pc.cells, nt1_i, nt1_b, nt1_o, nt1_p, nt1_w, nt1_pv, nt1_n, hl1.nt, hl2.nt]) (hK := by simp [ntK, cellsL, putL, Pc.cells, Ln.cells, nt1_i, nt1_b, nt1_o, nt1_p, nt1_w, nt1_pv, nt1_n, hl1.nt, hl2.nt, setK]) ?_
        refine dal (hkp := by first | exact Kept.all | exact Kept.k0 | exact Kept.kY | exact Kept.kYY | exact Kept.kY3) (hL := by simp [ntL, ntV, nt2, argL, Pc.cells, nt1_i, nt1_b, nt1_o, nt1_p, nt1_w, nt1_pv, nt1_n, hl1.nt, hl2.nt]) (hK := by simp [ntK, cellsL, putL, Pc.cells, Ln.cells, nt1_i, nt1_b, nt1_o, nt1_p, nt1_w, nt1_pv, nt1_n, hl1.nt, hl2.nt, setK]) ?_
        iterate 2 (refine dso (hkp := by first | exact Kept.all | exact Kept.k0 | exact Kept.kY | exact Kept.kYY | exact Kept.kY3) ?_)
        refine dn ?_
        refine sq ?_
        refine rg ?_
        refine st (h := sdFA) ?_
        refine st (h := sdL) ?_
        refine st (h := sdFA) ?_
        refine st (h := sdL) ?_
        iterate 2 (refine st (h := O) ?_)
        refine gN (fun g51 => ?_) (fun g51 => ?_)
        ·refine sp ?_
         iterate 4 (refine sp ?_)
         iterate 2 (refine st (h := O) ?_)
         iterate 5 (refine sp ?_)
         iterate 2 (refine st (h := O) ?_)
         iterate 5 (refine sp ?_)
         iterate 2 (refine st (h := O) ?_)
         iterate 5 (refine sp ?_)
         iterate 2 (refine st (h := O) ?_)
         iterate 5 (refine sp ?_)
         iterate 2 (refine st (h := O) ?_)
         iterate 6 (refine sp ?_)
         refine st (h := O) ?_
         refine nl ?_
         refine cT ?_
         refine sq ?_
         refine rg ?_
         refine st (h := O) ?_
         refine nl ?_
         exact rt ⟨hE (hne fun h => by subst h; first | exact g51 rfl | exact g58 rfl | exact g65 rfl | exact g72 rfl | exact g79 rfl | exact g86 rfl | (simp at c2)), rfl⟩
        ·refine sg (h := sdFA) ?_
         refine sg (h := sdL) ?_
         refine sg (h := sdFA) ?_
         refine sg (h := sdL) ?_
         refine sg (h := O) ?_
         iterate 2 (refine st (h := O) ?_)
         refine gN (fun g58 => ?_) (fun g58 => ?_)
         ·refine sp ?_
          iterate 4 (refine sp ?_)
          iterate 2 (refine st (h := O) ?_)
          iterate 5 (refine sp ?_)
          iterate 2 (refine st (h := O) ?_)
          iterate 5 (refine sp ?_)
          iterate 2 (refine st (h := O) ?_)
          iterate 5 (refine sp ?_)
          iterate 2 (refine st (h := O) ?_)
          iterate 6 (refine sp ?_)
          refine st (h := O) ?_
          refine nl ?_
          refine cT ?_
          refine sq ?_
          refine rg ?_
          refine st (h := O) ?_
          refine nl ?_
          exact rt ⟨hE (hne fun h => by subst h; first | exact g51 rfl | exact g58 rfl | exact g65 rfl | exact g72 rfl | exact g79 rfl | exact g86 rfl | (simp at c2)), rfl⟩
         ·refine sg (h := sdFA) ?_
          refine sg (h := sdL) ?_
          refine sg (h := sdFA) ?_
          refine sg (h := sdL) ?_
          refine sg (h := O) ?_
          iterate 2 (refine st (h := O) ?_)
          refine gN (fun g65 => ?_) (fun g65 => ?_)
          ·refine sp ?_
           iterate 4 (refine sp ?_)
           iterate 2 (refine st (h := O) ?_)
           iterate 5 (refine sp ?_)
           iterate 2 (refine st (h := O) ?_)
           iterate 5 (refine sp ?_)
           iterate 2 (refine st (h := O) ?_)
           iterate 6 (refine sp ?_)
           refine st (h := O) ?_
           refine nl ?_
           refine cT ?_
           refine sq ?_
           refine rg ?_
           refine st (h := O) ?_
           refine nl ?_
           exact rt ⟨hE (hne fun h => by subst h; first | exact g51 rfl | exact g58 rfl | exact g65 rfl | exact g72 rfl | exact g79 rfl | exact g86 rfl | (simp at c2)), rfl⟩
          ·refine sg (h := sdFA) ?_
           refine sg (h := sdL) ?_
           refine sg (h := sdFA) ?_
           refine sg (h := sdL) ?_
           refine sg (h := O) ?_
           iterate 2 (refine st (h := O) ?_)
           refine gN (fun g72 => ?_) (fun g72 => ?_)
           ·refine sp ?_
            iterate 4 (refine sp ?_)
            iterate 2 (refine st (h := O) ?_)
            iterate 5 (refine sp ?_)
            iterate 2 (refine st (h := O) ?_)
            iterate 6 (refine sp ?_)
            refine st (h := O) ?_
            refine nl ?_
            refine cT ?_
            refine sq ?_
            refine rg ?_
            refine st (h := O) ?_
            refine nl ?_
            exact rt ⟨hE (hne fun h => by subst h; first | exact g51 rfl | exact g58 rfl | exact g65 rfl | exact g72 rfl | exact g79 rfl | exact g86 rfl | (simp at c2)), rfl⟩
           ·refine sg (h := sdFA) ?_
            refine sg (h := sdL) ?_
            refine sg (h := sdFA) ?_
            refine sg (h := sdL) ?_
            refine sg (h := O) ?_
            iterate 2 (refine st (h := O) ?_)
            refine gN (fun g79 => ?_) (fun g79 => ?_)
            ·refine sp ?_
             iterate 4 (refine sp ?_)
             iterate 2 (refine st (h := O) ?_)
             iterate 6 (refine sp ?_)
             refine st (h := O) ?_
             refine nl ?_
             refine cT ?_
             refine sq ?_
             refine rg ?_
             refine st (h := O) ?_
             refine nl ?_
             exact rt ⟨hE (hne fun h => by subst h; first | exact g51 rfl | exact g58 rfl | exact g65 rfl | exact g72 rfl | exact g79 rfl | exact g86 rfl | (simp at c2)), rfl⟩
            ·refine sg (h := sdFA) ?_
             refine sg (h := sdL) ?_
             refine sg (h := sdFA) ?_
             refine sg (h := sdL) ?_
             refine sg (h := O) ?_
             iterate 2 (refine st (h := O) ?_)
             refine gN (fun g86 => ?_) (fun g86 => ?_)
             ·refine sp ?_
              iterate 5 (refine sp ?_)
              refine st (h := O) ?_
              refine nl ?_
              refine cT ?_
              refine sq ?_
              refine rg ?_
              refine st (h := O) ?_
              refine nl ?_
              exact rt ⟨hE (hne fun h => by subst h; first | exact g51 rfl | exact g58 rfl | exact g65 rfl | exact g72 rfl | exact g79 rfl | exact g86 rfl | (simp at c2)), rfl⟩
             ·refine sg (h := sdFA) ?_
              refine sg (h := sdL) ?_
              refine sg (h := sdFA) ?_
              refine sg (h := sdL) ?_
              refine clg (h := by exact fun ι hV hl => (Same_C _ _ _ px.glyphs qx.glyphs (hi1.le hl) (hi2.le hl)).ofR (arg2 (hl1.rV ι _ _) (hl2.rV ι _ _))) ?_
              refine sg (h := O) ?_
              refine st (h := O) ?_
              refine nl ?_
              refine cB (fun c2 => ?_) (fun c2 => ?_)
              ·refine sq ?_
               refine rg ?_
               refine st (h := O) ?_
               refine nl ?_
               exact rt ⟨hE (hne fun h => by subst h; first | exact g51 rfl | exact g58 rfl | exact g65 rfl | exact g72 rfl | exact g79 rfl | exact g86 rfl | (simp at c2)), rfl⟩
              ·refine sk ?_
               refine bk ?_
               refine rg ?_
               refine st (h := O) ?_
               refine st (h := sdA) ?_
               refine st (h := O) ?_
               refine nl ?_
               refine bk1 (i + 1) (by exact ⟨rfl, trivial⟩) (by exact ⟨rfl, rfl, trivial⟩) (by exact ⟨rfl, rfl, rfl, rfl, trivial⟩) ?_ ?_
               · omega
               · refine ⟨by omega, fun j hj => ?_⟩
                 rcases Nat.lt_or_ge j i with h | h
                 · exact hch j h
                 · obtain rfl : j = i := by omega
                   have hgl : px.glyphs = qx.glyphs := by simpa using c2
                   rw [hpx, hqx, Pc.ext' g51 g58 g65 g72 g79 g86 hgl]
      ·refine ex ?_
       refine sq ?_
       refine rg ?_
       refine st (h := O) ?_
       refine nl ?_
       obtain rfl : i = x.pieces.length := by omega
       have hps : x.pieces = y.pieces := by
         apply List.ext_getElem?
         intro j
         rcases Nat.lt_or_ge j x.pieces.length with h | h
         · exact hch j h
         · rw [List.getElem?_eq_none h, List.getElem?_eq_none (by omega)]
       exact rt ⟨congrArg Value.bool (decide_eq_true (Ln.ext' g13 hov hps)).symm, rfl⟩
theorem ln_at {F : Mem} {v : Value} {xs : List Ln} (h : RL 3 TLn F v xs) : ∃ a c, PlA a ∧ v = .slice a xs.length c ∧ xs.length ≤ 9223372036854775807 ∧ ∀ i, i < xs.length → ∃ b o x p pc, a = some ⟨b, o, none⟩ ∧ xs[i]? = some x ∧ lookN F ⟨b, o + i * 3, none⟩ 3 = some (x.cells (.slice p x.pieces.length pc)) ∧ PlA p ∧ RL 7 TPc F (.slice p x.pieces.length pc) x.pieces := by
  obtain ⟨a, c, ha, rfl, h1, h2, hr⟩ := h.opq
  refine ⟨a, c, ha, rfl, by omega, fun i hi => ?_⟩
  obtain ⟨b, o, rfl, hrq⟩ := hr (by omega)
  obtain ⟨cs, h1, g, rfl, hg⟩ := hrq i _ (List.getElem?_eq_getElem hi)
  obtain ⟨p, pc, hpa, rfl, _⟩ := pc_at hg
  exact ⟨b, o, _, p, pc, rfl, List.getElem?_eq_getElem hi, h1, hpa, hg⟩
theorem lnArg (ι : Nat → Nat) (x : Ln) {a : Option Addr} (h : PlA a) (n c : Nat) : rV ι (.agg ⟨x.cells (.slice a n c)⟩) = .agg ⟨x.cells (.slice a n c)⟩ := by
  show Value.agg ⟨(x.cells (.slice a n c)).map (r1 ι)⟩ = _
  rw [map_r1_pl ι (fun v hv => by simp only [Ln.cells, List.mem_cons, List.not_mem_nil, or_false] at hv; rcases hv with rfl | rfl | rfl; rfl; rfl; exact h.pl n c)]
theorem SameLines_C (F : Mem) (p q : Value) (xs ys : List Ln) (hp : RL 3 TLn F p xs) (hq : RL 3 TLn F q ys) : C0 Try.prog 14 [p, q] F (.bool (decide (xs = ys))) := by
  obtain ⟨pa, pc, hpa, rfl, hp63, hpr⟩ := ln_at hp
  obtain ⟨qa, qc, hqa, rfl, hq63, hqr⟩ := ln_at hq
  have hE : ∀ {P : Prop} [Decidable P], ¬ P → (Value.bool false = .bool (decide P)) := fun h => by rw [decide_eq_false h]
  refine C.go hT Try.func14 Try.ntmps14 ?_
  refine sq ?_
  refine rg ?_
  refine st (h := O) ?_
  refine nl ?_
  iterate 2 (refine sq ?_)
  refine rg ?_
  iterate 5 (refine st (h := O) ?_)
  refine nl ?_
  refine cN (fun c0 => ?_) (fun c0 => ?_)
  ·refine sq ?_
   refine rg ?_
   refine st (h := O) ?_
   refine nl ?_
   exact rt ⟨hE fun h => c0 (by rw [h]), rfl⟩
  ·refine sk ?_
   iterate 2 (refine sq ?_)
   refine rg ?_
   refine st (h := O) ?_
   refine nl ?_
   refine bl ?_
   refine J.loop1 (α := Nat) (fun i => i ≤ xs.length ∧ ∀ j, j < i → xs[j]? = ys[j]?) (fun i => [(5, .int .i64 i)]) [(0, _), (1, _)] (fun i => []) [] (fun i => xs.length - i) (0) (by exact ⟨rfl, trivial⟩) (by exact ⟨rfl, rfl, trivial⟩) (by exact trivial) ?_ ?_
   · exact ⟨Nat.zero_le _, fun j hj => absurd hj (Nat.not_lt_zero _)⟩
   ·intro i L1 K1 e1 e2 hI
    dsimp only [apV, apR, List.cons_append, List.nil_append] at e1 e2
    subst e1 e2
    obtain ⟨hi, hch⟩ := hI
    iterate 2 (refine sq ?_)
    refine rg ?_
    iterate 4 (refine st (h := O) ?_)
    refine nl ?_
    refine cD (fun c1 => ?_) (fun c1 => ?_)
    ·have hil : i < xs.length := by omega
     obtain ⟨pb, po, px, ga1, gc1, rfl, hpx, hp7, hl1, hi1⟩ := hpr i hil
     obtain ⟨qb, qo, qx, ga2, gc2, rfl, hqx, hq7, hl2, hi2⟩ := hqr i (by omega)
     rw [show po + i * 3 = po + (i : Int).toNat * 3 from rfl] at hp7
     rw [show qo + i * 3 = qo + (i : Int).toNat * 3 from rfl] at hq7
     refine sk ?_
     refine sq ?_
     refine bl ?_
     refine sq ?_
     refine dr 10 [] [0, 1, 2, 3, 4, 5, 6, 7, 1008, 9] ?_
     iterate 2 (refine dt (hv := by exact O) ?_)
     refine dt (hv := by exact (sdX (z := 3))) ?_
     refine dt (hv := by exact sdLN (hv := by exact hp7)) ?_
     iterate 2 (refine dt (hv := by exact O) ?_)
     refine dt (hv := by exact (sdX (z := 3))) ?_
     refine dt (hv := by exact sdLN (hv := by exact hq7)) ?_
     refine dcl (hkp := by first | exact Kept.all | exact Kept.k0 | exact Kept.kY | exact Kept.kYY | exact Kept.kY3) (h := by exact fun ι hV hl => (SameLine_C _ px qx _ _ (hi1.le hl (TPc.le hl)) (hi2.le hl (TPc.le hl))).ofR (arg2 (lnArg ι px hl1 _ _) (lnArg ι qx hl2 _ _))) ?_
     refine dt (hv := by exact O) ?_
     refine dn ?_
     refine cB (fun c2 => ?_) (fun c2 => ?_)
     ·refine sq ?_
      refine rg ?_
      refine st (h := O) ?_
      refine nl ?_
      exact rt ⟨hE fun h => by subst h; rw [hpx] at hqx; simp [Option.some.inj hqx] at c2, rfl⟩
     ·refine sk ?_
      refine bk ?_
      refine rg ?_
      refine st (h := O) ?_
      refine st (h := sdA) ?_
      refine st (h := O) ?_
      refine nl ?_
      refine bk1 (i + 1) (by exact ⟨rfl, trivial⟩) (by exact ⟨rfl, rfl, trivial⟩) (by exact trivial) ?_ ?_
      · omega
      · refine ⟨by omega, fun j hj => ?_⟩
        rcases Nat.lt_or_ge j i with h | h
        · exact hch j h
        · obtain rfl : j = i := by omega
          have hgl : px = qx := by simpa using c2
          rw [hpx, hqx, hgl]
    ·refine ex ?_
     refine sq ?_
     refine rg ?_
     refine st (h := O) ?_
     refine nl ?_
     obtain rfl : i = xs.length := by omega
     have hps : xs = ys := by
       apply List.ext_getElem?
       intro j
       rcases Nat.lt_or_ge j xs.length with h | h
       · exact hch j h
       · rw [List.getElem?_eq_none h, List.getElem?_eq_none (by omega)]
     exact rt ⟨congrArg Value.bool (decide_eq_true hps).symm, rfl⟩
end Go.Proofs.Ytnkddjdmpnghmaa.Am
namespace Go.Proofs.Ytnkddjdmpnghmaa.Am
set_option linter.unusedSimpArgs false
set_option linter.unusedVariables false
set_option maxRecDepth 100000
set_option maxHeartbeats 4000000
open Go Go.RowKit
theorem piece_C (F : Mem) (x : Item) (g : Value) (X run : Int) (hg : RGl F g x.glyphs) (hb : x.glyphs.length * 8 ≤ 140737488355328) (hp : 0 < x.glyphs.length) : C Try.prog 53 [.agg ⟨x.cells g⟩, .int .i64 X, .int .i64 run] F (fun u Y => ∃ g', u = .agg ⟨(pcOf x X run).cells g'⟩ ∧ plain1 g' = true ∧ ∀ G, Rd G Y → RInts G g' x.glyphs) := by
  obtain ⟨ga, gc, rfl, hga⟩ := hg.ixq
  have hep := hga.pl
  have hpla : (ivs x.glyphs).all plain1 = true := List.all_eq_true.2 fun v hv => by obtain ⟨y, _, rfl⟩ := List.mem_map.1 hv; rfl
  have hntt : ∀ t, (ivs x.glyphs).all (nt1 t) = true := fun t => List.all_eq_true.2 fun v hv => by obtain ⟨y, _, rfl⟩ := List.mem_map.1 hv; rfl
  have hpl1 : plain1 (.slice ga x.glyphs.length gc) = true := hg.pl1
  refine C.go hT Try.func53 Try.ntmps53 ?_
  refine sq ?_
  refine rg ?_
  refine bx (hL := by simp [ntL, ntV, nt2, ntK, argL, cellsL, putL, Item.cells, nt1_i, nt1_b, nt1_n, nt1_w, nt1_p, nt1_o, nt1_pv, nt1_p0, hep.nt]) ?_
  refine JL.flat (by exact Item.pl_cells _ hpl1) ?_
  refine al (hL := by simp [ntL, ntV, nt2, ntK, argL, cellsL, putL, Item.cells, nt1_i, nt1_b, nt1_n, nt1_w, nt1_p, nt1_o, nt1_pv, nt1_p0, hep.nt]) ?_
  refine nl ?_
  refine sq ?_
  refine drK 15 [6, 3] [(3, _)] [0, 1, 2, 3, 4, 5, 6, 7, 8, 9, 11, 12, 1010, 1013, 14, 1015] ?_
  refine dt (hv := by exact O) ?_
  refine dt (hv := by exact sdFA) ?_
  refine dt (hv := by exact sdL) ?_
  refine dt (hv := by exact sdFA) ?_
  refine dt (hv := by exact sdL) ?_
  refine dt (hv := by exact sdFA) ?_
  refine dt (hv := by exact sdL) ?_
  refine dt (hv := by exact sdFA) ?_
  refine dt (hv := by exact sdL) ?_
  refine dt (hv := by exact O) ?_
  refine dt (hv := by exact sdFA) ?_
  refine dt (hv := by exact sdL) ?_
  refine dsl (hL := by first | rfl | simp [ntL, ntV, nt2, ntK, argL, cellsL, putL, Item.cells, nt1_i, nt1_b, nt1_n, nt1_w, nt1_p, nt1_o, nt1_pv, nt1_p0, hep.nt]) ?_
  refine dapO (m := x.glyphs.length) (news := ivs x.glyphs) 20 ?_ (happ := hga.app gc) (hnn := hntt _) (hflat := fun _ => hpla) (hL := by first | rfl | simp [ntL, ntV, nt2, ntK, argL, cellsL, putL, Item.cells, nt1_i, nt1_b, nt1_n, nt1_w, nt1_p, nt1_o, nt1_pv, nt1_p0, hep.nt])
  intro cap20 hc20 hd20
  refine dt (hv := by exact O) ?_
  refine dso (hkp := by first | exact Kept.all | exact Kept.k0 | exact Kept.kY | exact Kept.kYY | exact Kept.kY3) ?_
  refine dn ?_
  refine J.weak (L0 := [(6, _)]) (K0 := [(6, _), (20, _)]) (by exact ⟨rfl, trivial⟩) (by exact ⟨rfl, rfl, rfl, rfl, trivial⟩) ?_
  refine rtX fun ι hV => ⟨.slice (some ⟨ι 20, 0, none⟩) (0 + x.glyphs.length) cap20, rfl, rfl, fun G hG => ?_⟩
  refine Rd.ivsW hG (List.mem_cons_of_mem _ List.mem_cons_self) ?_ (Nat.zero_add _) (by omega)
  show (List.map (r1 ι) ([] ++ ivs x.glyphs)) = _
  exact ivs_r _ _
theorem itemR (ι : Nat → Nat) (x : Item) {a : Option Addr} (h : PlA a) (n c : Nat) : rV ι (.agg ⟨x.cells (.slice a n c)⟩) = .agg ⟨x.cells (.slice a n c)⟩ := by
  show Value.agg ⟨(x.cells (.slice a n c)).map (r1 ι)⟩ = _
  rw [map_r1_pl ι (Item.pl_cells x (h.pl n c))]
theorem readG_LR {α : Type} {sz : Nat} {T : Mem → α → List Value → Prop} {Y : List (Nat × Row)} {xs : List α} {cs : List Value} (h : LR sz T Y xs cs) {G : Mem} (hG : Rd G Y) {b n c : Nat} (hr : ∀ (o : Nat) (u : Value), cs[o]? = some u → look G ⟨b, o, none⟩ = some u) (hn : n = xs.length) (hc : n ≤ c) (h63 : c ≤ 9223372036854775807) : RL sz T G (.slice (some ⟨b, 0, none⟩) n c) xs := by
  subst hn
  refine .inl ⟨b, 0, c, rfl, hc, h63, fun i x hx => ?_⟩
  obtain ⟨c', h1, h2, h3⟩ := h.el i x hx
  refine ⟨c', ?_, h2 G hG⟩
  have := lookN_of (F := G) (a := ⟨b, 0 + i * sz, none⟩) (cs := c') (fun j v hv => by
    refine hr (0 + i * sz + j) v ?_
    rw [Nat.zero_add]
    exact h3 j v hv)
  rwa [h1] at this
theorem rd_row {G : Mem} {x1 : Nat × Row} {b : Nat} {ι : Nat → Nat} {r : Row} {Y : List (Nat × Row)} {cs : List Value} (hG : Rd G (x1 :: (b, r.r ι) :: Y)) (hcs : r.cs = cs) (hpl : ∀ v ∈ cs, plain1 v = true) : ∀ (o : Nat) (u : Value), cs[o]? = some u → look G ⟨b, o, none⟩ = some u := fun o u hu => by
  subst hcs
  refine hG (b, r.r ι) (List.mem_cons_of_mem _ List.mem_cons_self) o u ?_
  rw [Row.r, map_r1_pl ι hpl]
  exact hu
structure SW where
  m : Nat
  k : Nat
  x : Int
  run : Int
theorem one_C (F : Mem) (v : Value) (l : List Item) (a : Int) (a1 b : Nat) (width ag : Int) (hv : RItems F v l) (hg : goodL l = true) (ha : a + 1 = a1) (hb : b < l.length) (hln : lineB l a b = true) (hw : 1 ≤ width ∧ width ≤ 1073741824) (hgl : ∀ x ∈ l, x.glyphs.length * 8 ≤ 140737488355328) :
    C Try.prog 33 [v, .int .i64 a, .int .i64 b, .int .i64 width, .int .i64 ag] F (fun u Y => ∃ pv, u = .agg ⟨(oneD l a1 b width ag).cells pv⟩ ∧ plain1 pv = true ∧ ∀ G, Rd G Y → RL 7 TPc G pv (oneD l a1 b width ag).pieces) := by
  have hlen := good_len hg
  rcases hv.cases with ⟨vb, vo, vc, rfl, h63, hr⟩ | ⟨rfl, rfl⟩
  · have hab : a < b := by
      simp only [lineB, Bool.and_eq_true, decide_eq_true_eq] at hln
      exact hln.1.2
    have hmd : measD l a b = (mW l a1 b, mY l a1 b, mZ l a1 b) := by
      rw [measD, if_pos hln, ha, Int.toNat_natCast, Int.toNat_natCast]
    have hbg : beginAt l ((b : Int)).toNat (((b : Int)).toNat - (a + 1).toNat) (a + 1).toNat = fromA l a1 b := by
      rw [ha, Int.toNat_natCast, Int.toNat_natCast]
      exact begin_eq hg _ _ _ (by omega) (by omega)
    have hfl := fromA_le l a1 b
    have bW := mW_bd hg (a1 := a1) hb
    have hgb := glueD_bd (a1 := a1) (w := width) (ag := ag) hg hb
    have hpl := part_len (l := l) (f := fromA l a1 b) (b := b) (by omega)
    have hcnt : (gluL Item.width ((l.drop (fromA l a1 b)).take (b - fromA l a1 b)) 0 ((l.drop (fromA l a1 b)).take (b - fromA l a1 b)).length).length = (glueD l a1 b width ag).1.length := by
      rw [hpl, gluL_part (by omega) (Nat.le_refl _), glueD_len]; rfl
    have hok : ∀ i, i < ((l.drop (fromA l a1 b)).take (b - fromA l a1 b)).length → (at_ ((l.drop (fromA l a1 b)).take (b - fromA l a1 b)) i).ok = true := fun i hi => by
      rw [at_part (by omega) (by omega)]
      exact good_ok hg (by omega)
    have hap : ∀ d, d < b - fromA l a1 b → at_ ((l.drop (fromA l a1 b)).take (b - fromA l a1 b)) d = at_ l (fromA l a1 b + d) := fun d hd => at_part (by omega) hd
    have hx0 : -4398046511104 ≤ beginD (width - mW l a1 b) ag ∧ beginD (width - mW l a1 b) ag ≤ 4398046511104 := by
      unfold beginD
      split
      · omega
      · split
        · omega
        · split <;> omega
    have hgn : (glueD l a1 b width ag).1.length ≤ ((l.drop (fromA l a1 b)).take (b - fromA l a1 b)).length := by rw [← hcnt]; exact gluL_le _ _ _ _
    unfold oneD
    generalize hgs : glueD l a1 b width ag = gd at *
    generalize hfm : fromA l a1 b = fm at *
    generalize hli : (l.drop fm).take (b - fm) = li at *
    generalize hx00 : beginD (width - mW l a1 b) ag = x0 at *
    refine C.go hT Try.func33 Try.ntmps33 ?_
    refine sq ?_
    refine rg ?_
    refine al ?_
    refine nl ?_
    refine sq ?_
    refine rg ?_
    iterate 5 (refine st (h := O) ?_)
    refine clC (h := by exact fun ι hV hl => (hgs ▸ rglue_C _ _ l a a1 b width ag (hv.le hl) hg ha hb hln hw)) ?_
    intro u1 Y1 hQ1 hv1 hp1 hN1
    obtain ⟨ga, gc, rfl, hR1⟩ := hQ1
    have hgx := hR1 _ hN1.rows
    iterate 5 (refine st (h := O) ?_)
    refine nl ?_
    refine sq ?_
    refine rg ?_
    iterate 3 (refine st (h := O) ?_)
    refine cl (h := by exact fun ι hV hl => (hmd ▸ R24Measure_C _ _ l a b ((hv.le hN1.le).le hl))) ?_
    iterate 7 (refine st (h := O) ?_)
    refine nl ?_
    refine sq ?_
    refine rg ?_
    iterate 2 (refine st (h := O) ?_)
    refine st (h := sdS) ?_
    refine st (h := O) ?_
    refine nl ?_
    refine sq ?_
    refine rg ?_
    refine st (h := O) ?_
    refine nl ?_
    iterate 2 (refine sq ?_)
    refine J.cut1 (α := Bool) (fun q => q = decide (0 < width - mW l a1 b ∧ ag = 2)) (fun q => [(47, .bool q)]) [(0, _), (1, _), (2, _), (4, _), (10, _), (11, _), (12, _), (16, _), (17, _)] (fun q => []) [(10, _)] (by exact ⟨rfl, rfl, rfl, rfl, rfl, rfl, rfl, rfl, rfl, trivial⟩) (by exact ⟨rfl, rfl, trivial⟩) ?_ ?_
    ·refine rg ?_
     iterate 3 (refine st (h := O) ?_)
     refine gD (fun g44 => ?_) (fun g44 => ?_)
     ·refine sg (h := O) ?_
      refine sg (h := O) ?_
      refine st (h := O) ?_
      refine nl ?_
      refine ck1 (_) (by exact ⟨rfl, trivial⟩) (by exact ⟨rfl, rfl, rfl, rfl, rfl, rfl, rfl, rfl, rfl, trivial⟩) (by exact ⟨rfl, rfl, trivial⟩) ?_
      first | (rw [decide_eq_decide]; (try dsimp only at *); omega) | (rw [eq_comm, decide_eq_false_iff_not]; (try dsimp only at *); omega)
     ·refine sp ?_
      refine sp ?_
      refine st (h := O) ?_
      refine nl ?_
      refine ck1 (_) (by exact ⟨rfl, trivial⟩) (by exact ⟨rfl, rfl, rfl, rfl, rfl, rfl, rfl, rfl, rfl, trivial⟩) (by exact ⟨rfl, rfl, trivial⟩) ?_
      first | (rw [decide_eq_decide]; (try dsimp only at *); omega) | (rw [eq_comm, decide_eq_false_iff_not]; (try dsimp only at *); omega)
    ·intro q L1 K1 e1 e2 hI
     dsimp only [List.cons_append, List.nil_append] at e1 e2
     subst e1 e2
     subst hI
     refine J.cut1 (α := Int) (fun X => X = if 0 < width - mW l a1 b ∧ ag = 2 then width - mW l a1 b else 0) (fun X => [(17, .int .i64 X)]) [(0, _), (1, _), (2, _), (4, _), (10, _), (11, _), (12, _), (16, _)] (fun X => []) [(10, _)] (by exact ⟨rfl, rfl, rfl, rfl, rfl, rfl, rfl, rfl, trivial⟩) (by exact ⟨rfl, rfl, trivial⟩) ?_ ?_
     ·refine cB (fun c0 => ?_) (fun c0 => ?_)
      ·refine rg ?_
       iterate 2 (refine st (h := O) ?_)
       refine nl ?_
       refine ck1 (_) (by exact ⟨rfl, trivial⟩) (by exact ⟨rfl, rfl, rfl, rfl, rfl, rfl, rfl, rfl, trivial⟩) (by exact ⟨rfl, rfl, trivial⟩) ?_
       first | exact (if_pos (of_decide_eq_true c0)).symm | exact (if_neg (of_decide_eq_false c0)).symm
      ·refine sk ?_
       refine ck1 (_) (by exact ⟨rfl, trivial⟩) (by exact ⟨rfl, rfl, rfl, rfl, rfl, rfl, rfl, rfl, trivial⟩) (by exact ⟨rfl, rfl, trivial⟩) ?_
       first | exact (if_pos (of_decide_eq_true c0)).symm | exact (if_neg (of_decide_eq_false c0)).symm
     ·intro X L1 K1 e1 e2 hI
      dsimp only [List.cons_append, List.nil_append] at e1 e2
      subst e1 e2
      have hX := hI
      iterate 2 (refine sq ?_)
      refine J.cut1 (α := Bool) (fun q => q = decide (0 < width - mW l a1 b ∧ ag = 3)) (fun q => [(54, .bool q)]) [(0, _), (1, _), (2, _), (10, _), (11, _), (12, _), (16, _), (17, _)] (fun q => []) [(10, _)] (by exact ⟨rfl, rfl, rfl, rfl, rfl, rfl, rfl, rfl, trivial⟩) (by exact ⟨rfl, rfl, trivial⟩) ?_ ?_
      ·refine rg ?_
       iterate 3 (refine st (h := O) ?_)
       refine gD (fun g51 => ?_) (fun g51 => ?_)
       ·refine sg (h := O) ?_
        refine sg (h := O) ?_
        refine st (h := O) ?_
        refine nl ?_
        refine ck1 (_) (by exact ⟨rfl, trivial⟩) (by exact ⟨rfl, rfl, rfl, rfl, rfl, rfl, rfl, rfl, trivial⟩) (by exact ⟨rfl, rfl, trivial⟩) ?_
        first | (rw [decide_eq_decide]; (try dsimp only at *); omega) | (rw [eq_comm, decide_eq_false_iff_not]; (try dsimp only at *); omega)
       ·refine sp ?_
        refine sp ?_
        refine st (h := O) ?_
        refine nl ?_
        refine ck1 (_) (by exact ⟨rfl, trivial⟩) (by exact ⟨rfl, rfl, rfl, rfl, rfl, rfl, rfl, rfl, trivial⟩) (by exact ⟨rfl, rfl, trivial⟩) ?_
        first | (rw [decide_eq_decide]; (try dsimp only at *); omega) | (rw [eq_comm, decide_eq_false_iff_not]; (try dsimp only at *); omega)
      ·intro q L1 K1 e1 e2 hI
       dsimp only [List.cons_append, List.nil_append] at e1 e2
       subst e1 e2
       subst hI
       refine J.cut1 (α := Int) (fun X => X = x0) (fun X => [(17, .int .i64 X)]) [(0, _), (1, _), (2, _), (10, _), (11, _), (12, _)] (fun X => []) [(10, _)] (by exact ⟨rfl, rfl, rfl, rfl, rfl, rfl, trivial⟩) (by exact ⟨rfl, rfl, trivial⟩) ?_ ?_
       ·refine cB (fun c1 => ?_) (fun c1 => ?_)
        ·have hq3 := of_decide_eq_true c1
         refine rg ?_
         refine st (h := O) ?_
         refine st (h := sdQ) ?_
         refine st (h := O) ?_
         refine nl ?_
         refine ck1 (_) (by exact ⟨rfl, trivial⟩) (by exact ⟨rfl, rfl, rfl, rfl, rfl, rfl, trivial⟩) (by exact ⟨rfl, rfl, trivial⟩) ?_
         rw [← hx00, beginD]
         first
           | (have h := of_decide_eq_true c1
              rw [if_neg (by omega), if_neg (by omega), if_pos h.2])
           | (have h := of_decide_eq_false c1
              rw [hX]
              split
              · rw [if_neg (by omega), if_pos (by omega)]
              · split
                · rfl
                · rw [if_neg (by omega), if_neg (by omega)])
        ·refine sk ?_
         refine ck1 (_) (by exact ⟨rfl, trivial⟩) (by exact ⟨rfl, rfl, rfl, rfl, rfl, rfl, trivial⟩) (by exact ⟨rfl, rfl, trivial⟩) ?_
         rw [← hx00, beginD]
         first
           | (have h := of_decide_eq_true c1
              rw [if_neg (by omega), if_neg (by omega), if_pos h.2])
           | (have h := of_decide_eq_false c1
              rw [hX]
              split
              · rw [if_neg (by omega), if_pos (by omega)]
              · split
                · rfl
                · rw [if_neg (by omega), if_neg (by omega)])
       ·intro X L1 K1 e1 e2 hI
        dsimp only [List.cons_append, List.nil_append] at e1 e2
        subst e1 e2
        subst hI
        refine sq ?_
        refine rg ?_
        iterate 2 (refine st (h := O) ?_)
        refine al (hL := by simp [ntL, ntV, nt2, ntK, argL, cellsL, putL, lnB, Item.cells, Pc.cells, pcOf, nt1_i, nt1_b, nt1_n, nt1_w, nt1_p, nt1_o, nt1_pv, nt1_p0, hgx.pl.nt, setK, delK, zer]) ?_
        refine so ?_
        refine nl ?_
        refine sq ?_
        refine rg ?_
        iterate 2 (refine st (h := O) ?_)
        refine nl ?_
        iterate 2 (refine sq ?_)
        refine rg ?_
        iterate 3 (refine st (h := O) ?_)
        refine cl (h := by exact fun ι hV hl => (hbg ▸ RBegin_C _ _ l a b ((hv.le hN1.le).le hl) (by omega) hab (by omega))) ?_
        refine st (h := O) ?_
        refine nl ?_
        refine bl ?_
        refine J.gloop4 (α := Option Nat) (β := Nat) (γ := List Value) (δ := SW) (fun Y o d cs S => d ≤ li.length ∧ S.m = (walkS gd.1 li X d).ps.length ∧ apB o S.m ∧ LR 7 TPc Y (walkS gd.1 li X d).ps cs ∧ S.k = (walkS gd.1 li X d).k ∧ S.x = (walkS gd.1 li X d).x ∧ S.run = (walkS gd.1 li X d).run ∧ S.m ≤ d) (fun o d cs S => [(17, .int .i64 S.x), (19, .int .i64 S.k), (20, .int .i64 S.run), (21, .int .i64 ((fm + d : Nat) : Int))]) [(0, _), (2, _), (10, _), (11, _), (18, _)] (fun o d cs S => apR 96 51 7 true o cs ++ [(18, lnB 47 0 gd.2 (apV 96 o S.m))]) [(10, _)] (fun o d cs S => li.length - d) (none) (0) ([]) (⟨0, 0, X, 0⟩) (by exact ⟨rfl, rfl, rfl, rfl, trivial⟩) (by exact ⟨rfl, rfl, rfl, rfl, rfl, trivial⟩) (by exact (by repeat' first | exact trivial | refine And.intro rfl ?_)) ?_ ?_
        · exact ⟨Nat.zero_le _, rfl, rfl, LR.nil _, rfl, rfl, rfl, Nat.le_refl _⟩
        ·intro Y o d cs S L1 K1 e1 e2 hI hY hN
         rcases o with _ | cap_o
         all_goals
          dsimp only [apV, apR, List.cons_append, List.nil_append] at e1 e2
          subst e1 e2
          obtain ⟨hd, hSm, hap1, hLR, hSk, hSx, hSr, hmi⟩ := hI
          have hxb := walkS_bd hgb hok hx0 d hd
          simp only [apB] at hap1
          generalize hs : walkS gd.1 li X d = s at hSm hLR hSk hSx hSr hxb
          have hLl := hLR.len
          rw [← hSm] at hLl
          iterate 2 (refine sq ?_)
          refine rg ?_
          iterate 3 (refine st (h := O) ?_)
          refine nl ?_
          refine cD (fun c2 => ?_) (fun c2 => ?_)
          ·have hil : d < li.length := by omega
           have hst : walkS gd.1 li X (d + 1) = stepS gd.1 s (at_ li d) := by rw [walkS, hs]
           have hk2l := fun h => walkS_k_lt (x0 := X) hcnt hil h
           rw [hs] at hk2l
           have hki := hok d hil
           simp only [Item.ok, decide_eq_true_eq] at hki
           have hgi := hgl _ (List.mem_of_getElem? (at_get (l := l) (i := fm + d) (by omega)))
           obtain ⟨_, _, _, _, _, _, g9, hg2, hri⟩ := hr (fm + d) (by omega)
           rw [← hap d (by omega)] at hg2 hri hgi
           have hg2 : lookN ((F.add Y1).add Y) ⟨vb, vo + (((fm + d : Nat) : Int)).toNat * 11, none⟩ 11 = some ((at_ li d).cells g9) := look_leN hN.le (look_leN hN1.le hg2)
           have hri := (hri.le hN1.le).le hN.le
           generalize hx : at_ li d = x at hg2 hri hki hgi hst hk2l
           obtain ⟨ga9, gc9, rfl, hga9⟩ := hri.ixq
           have hip := hga9.pl
           have k0 : look ((F.add Y1).add Y) ⟨vb, vo + (((fm + d : Nat) : Int)).toNat * 11 + 0, none⟩ = some (.int .i64 x.kind) := lookN_at hg2 0 rfl
           have k1 : look ((F.add Y1).add Y) ⟨vb, vo + (((fm + d : Nat) : Int)).toNat * 11 + 1, none⟩ = some (.int .i64 x.width) := lookN_at hg2 1 rfl
           have k9 : look ((F.add Y1).add Y) ⟨vb, vo + (((fm + d : Nat) : Int)).toNat * 11 + 9, none⟩ = some (.int .i64 x.run) := lookN_at hg2 9 rfl
           have k10 : look ((F.add Y1).add Y) ⟨vb, vo + (((fm + d : Nat) : Int)).toNat * 11 + 10, none⟩ = some (.slice ga9 x.glyphs.length gc9) := lookN_at hg2 10 rfl
           refine sk ?_
           refine sq ?_
           refine bl ?_
           refine sq ?_
           refine rg ?_
           iterate 2 (refine st (h := O) ?_)
           refine st (h := (sdX (z := 11))) ?_
           refine st (h := sdFA) ?_
           refine st (h := (by first | exact sdLG | exact sdW)) ?_
           refine nl ?_
           refine bl ?_
           refine sq ?_
           refine rg ?_
           iterate 2 (refine st (h := O) ?_)
           refine nl ?_
           refine cD (fun c3 => ?_) (fun c3 => ?_)
           ·refine sq ?_
            refine sq ?_
            refine rg ?_
            iterate 2 (refine st (h := O) ?_)
            refine st (h := (sdX (z := 11))) ?_
            refine st (h := sdFA) ?_
            refine st (h := sdL) ?_
            iterate 2 (refine st (h := O) ?_)
            refine nl ?_
            refine cD (fun c4 => ?_) (fun c4 => ?_)
            ·refine sq ?_
             refine drK 16 [18, 10, 96] [(10, _), (18, _)] [0, 1, 2, 3, 4, 5, 6, 7, 8, 9, 10, 11, 1012, 1013, 1014, 15, 1016] ?_
             refine dt (hv := by exact sdFA) ?_
             refine dt (hv := by exact sdL) ?_
             iterate 2 (refine dt (hv := by exact O) ?_)
             refine dt (hv := by exact (sdX (z := 11))) ?_
             refine dt (hv := by exact sdLN (hv := by exact hg2)) ?_
             iterate 3 (refine dt (hv := by exact O) ?_)
             refine dt (hv := by exact (sdX (z := 11))) ?_
             refine dt (hv := by exact sdFA) ?_
             refine dt (hv := by exact (by first | exact sdLG | exact sdW)) ?_
             refine dclC (hkp := by first | exact Kept.all | exact Kept.k0 | exact Kept.kY | exact Kept.kYY | exact Kept.kY3) (h := by exact fun ι hV hl => (piece_C _ x (.slice ga9 x.glyphs.length gc9) S.x x.run (hri.le hl) hgi (by omega)).ofR (argC (by exact itemR _ x hip _ _) rfl)) ?_
             intro u2 Y2 hQ2 hv2 hp2 hN2
             obtain ⟨pg, rfl, hpg, hRp⟩ := hQ2
             have k1 := hN2.le _ _ k1
             have k9 := hN2.le _ _ k9
             rcases hRp _ hN2.rows with ⟨pb, po, pc, rfl, _⟩ | ⟨_, hz⟩
             rotate_left
             · exfalso
               have hz2 : x.glyphs.length = 0 := by rw [show x.glyphs = [] from hz]; rfl
               omega
             refine dsl (hL := by simp [ntL, ntV, nt2, ntK, argL, cellsL, putL, lnB, Item.cells, Pc.cells, pcOf, nt1_i, nt1_b, nt1_n, nt1_w, nt1_p, nt1_o, nt1_pv, nt1_p0, hgx.pl.nt, hip.nt, setK, delK, zer]) ?_
             first | refine dapN (news := [_, _, _, _, _, _, _]) 500013 true (hflat := by intro h; first | rfl | cases h) (hL := by simp [ntL, ntV, nt2, ntK, argL, cellsL, putL, lnB, Item.cells, Pc.cells, pcOf, nt1_i, nt1_b, nt1_n, nt1_w, nt1_p, nt1_o, nt1_pv, nt1_p0, hgx.pl.nt, hip.nt, setK, delK, zer]) ?_ | refine dapO (news := [_, _, _, _, _, _, _]) 500013 (hflat := by intro h; first | rfl | cases h) (hL := by simp [ntL, ntV, nt2, ntK, argL, cellsL, putL, lnB, Item.cells, Pc.cells, pcOf, nt1_i, nt1_b, nt1_n, nt1_w, nt1_p, nt1_o, nt1_pv, nt1_p0, hgx.pl.nt, hip.nt, setK, delK, zer]) ?_
             intro cap96 hc96 hd96
             refine dt (hv := by exact sdFA) ?_
             refine dso (hkp := by first | exact Kept.all | exact Kept.k0 | exact Kept.kY | exact Kept.kYY | exact Kept.kY3) ?_
             refine dnl ?_
             refine JL.retagC (A := 18) (t := 500013) (u := 96) (off := 2) [(0, _), (2, _), (10, _), (11, _), (17, _), (18, _), (19, _), (20, _), (21, _)] [(10, _)] ?_ (hL := by simp [ntL, ntV, nt2, ntK, argL, cellsL, putL, lnB, Item.cells, Pc.cells, pcOf, nt1_i, nt1_b, nt1_n, nt1_w, nt1_p, nt1_o, nt1_pv, nt1_p0, hgx.pl.nt, hip.nt, setK, delK, zer])
             refine nl ?_
             refine rg ?_
             iterate 2 (refine st (h := O) ?_)
             refine st (h := (sdX (z := 11))) ?_
             refine st (h := sdFA) ?_
             refine st (h := (by first | exact sdLG | exact sdW)) ?_
             refine st (h := O) ?_
             refine nl ?_
             refine rg ?_
             iterate 3 (refine st (h := O) ?_)
             refine st (h := (sdX (z := 11))) ?_
             refine st (h := sdFA) ?_
             refine st (h := (by first | exact sdLG | exact sdW)) ?_
             refine st (h := sdA) ?_
             refine st (h := O) ?_
             refine nl ?_
             iterate 2 (refine bk ?_)
             refine rg ?_
             refine st (h := O) ?_
             refine st (h := sdA) ?_
             refine st (h := O) ?_
             refine nl ?_
             refine gbk4 (_) (some _) (d + 1) (_) (⟨_, S.k, S.x + x.width, x.run⟩) (by exact ⟨rfl, rfl, rfl, rfl, trivial⟩) (by exact ⟨rfl, rfl, rfl, rfl, rfl, trivial⟩) (by exact (by repeat' first | exact trivial | refine And.intro rfl ?_)) (by exact add_add _ _ _) ?_ ?_ ?_
             · exact PlainRows.app hY hp2
             · omega
             · rw [hst, stepS, if_pos c3, if_pos (by omega), if_pos (by omega)]
               refine ⟨by omega, by rw [List.length_append, ← hSm]; first | rfl | (dsimp only [List.length_singleton]; omega), ⟨by omega, by omega⟩, ?_, hSk, by rw [hSx], rfl, by dsimp only; omega⟩
               try rw [List.eq_nil_of_length_eq_zero (l := cs) (by omega)] at hLR
               rw [← hSx]
               exact LR.snoc (Z := Y2) hLR rfl (Pc.pl_cells _ hpg) fun G hG => ⟨_, rfl, hRp G hG.app_left⟩
            ·let oN : Option Nat := by first | exact some cap_o | exact none
             refine sk ?_
             refine rg ?_
             iterate 3 (refine st (h := O) ?_)
             refine st (h := (sdX (z := 11))) ?_
             refine st (h := sdFA) ?_
             refine st (h := (by first | exact sdLG | exact sdW)) ?_
             refine st (h := sdA) ?_
             refine st (h := O) ?_
             refine nl ?_
             iterate 2 (refine bk ?_)
             refine rg ?_
             refine st (h := O) ?_
             refine st (h := sdA) ?_
             refine st (h := O) ?_
             refine nl ?_
             refine gbk4 (Y) (oN) (d + 1) (cs) (⟨S.m, S.k, S.x + x.width, S.run⟩) (by exact ⟨rfl, rfl, rfl, rfl, trivial⟩) (by exact ⟨rfl, rfl, rfl, rfl, rfl, trivial⟩) (by exact (by repeat' first | exact trivial | refine And.intro rfl ?_)) (by first | rfl | exact add_add _ _ _) ?_ ?_ ?_
             · assumption
             · omega
             · rw [hst, stepS, if_pos c3, if_neg (by omega), if_neg (by omega)]
               exact ⟨by omega, hSm, hap1, hLR, hSk, by rw [hSx], hSr, by dsimp only; omega⟩
           ·refine sq ?_
            refine rg ?_
            iterate 2 (refine st (h := O) ?_)
            refine nl ?_
            refine cD (fun c5 => ?_) (fun c5 => ?_)
            ·have hkl := hk2l c5
             obtain ⟨gb, go, rfl, hgr⟩ := hgx.rd (by omega)
             have hq : look ((F.add Y1).add Y) ⟨gb, go + (S.k : Int).toNat * 1, none⟩ = some (.int .i64 (ints gd.1 s.k)) := by
               rw [Int.toNat_natCast, Nat.mul_one, hSk]
               exact hN.le _ _ (hgr _ _ (ints_get hkl))
             have hgq := hgb _ (List.mem_of_getElem? (ints_get hkl))
             let oN : Option Nat := by first | exact some cap_o | exact none
             refine sq ?_
             refine rg ?_
             iterate 3 (refine st (h := O) ?_)
             refine st (h := (sdX (z := 1))) ?_
             refine st (h := (by first | exact sdLG | exact sdW)) ?_
             refine st (h := sdA) ?_
             refine st (h := O) ?_
             refine nl ?_
             refine rg ?_
             refine st (h := O) ?_
             refine st (h := sdA) ?_
             refine st (h := O) ?_
             refine nl ?_
             iterate 2 (refine bk ?_)
             refine rg ?_
             refine st (h := O) ?_
             refine st (h := sdA) ?_
             refine st (h := O) ?_
             refine nl ?_
             refine gbk4 (Y) (oN) (d + 1) (cs) (⟨S.m, S.k + 1, S.x + ints gd.1 s.k, S.run⟩) (by exact ⟨rfl, rfl, rfl, rfl, trivial⟩) (by exact ⟨rfl, rfl, rfl, rfl, rfl, trivial⟩) (by exact (by repeat' first | exact trivial | refine And.intro rfl ?_)) (by first | rfl | exact add_add _ _ _) ?_ ?_ ?_
             · assumption
             · omega
             · rw [hst, stepS, if_neg c3, if_pos c5]
               exact ⟨by omega, hSm, hap1, hLR, by rw [hSk], by rw [hSx], hSr, by dsimp only; omega⟩
            ·let oN : Option Nat := by first | exact some cap_o | exact none
             refine sk ?_
             iterate 2 (refine bk ?_)
             refine rg ?_
             refine st (h := O) ?_
             refine st (h := sdA) ?_
             refine st (h := O) ?_
             refine nl ?_
             refine gbk4 (Y) (oN) (d + 1) (cs) (⟨S.m, S.k, S.x, S.run⟩) (by exact ⟨rfl, rfl, rfl, rfl, trivial⟩) (by exact ⟨rfl, rfl, rfl, rfl, rfl, trivial⟩) (by exact (by repeat' first | exact trivial | refine And.intro rfl ?_)) (by first | rfl | exact add_add _ _ _) ?_ ?_ ?_
             · assumption
             · omega
             · rw [hst, stepS, if_neg c3, if_neg c5]
               exact ⟨by omega, hSm, hap1, hLR, hSk, hSx, hSr, by dsimp only; omega⟩
          ·obtain rfl : d = li.length := by omega
           have heok := good_ok hg hb
           simp only [Item.ok, decide_eq_true_eq] at heok
           have hgi := hgl _ (List.mem_of_getElem? (at_get hb))
           obtain ⟨_, _, _, _, _, _, g9, hg2, hri⟩ := hr b hb
           have hg2 : lookN ((F.add Y1).add Y) ⟨vb, vo + ((b : Int)).toNat * 11, none⟩ 11 = some ((at_ l b).cells g9) := look_leN hN.le (look_leN hN1.le hg2)
           have hri := (hri.le hN1.le).le hN.le
           generalize hx : at_ l b = e at hg2 hri heok hgi
           obtain ⟨ga9, gc9, rfl, hga9⟩ := hri.ixq
           have hep := hga9.pl
           have k0 : look ((F.add Y1).add Y) ⟨vb, vo + ((b : Int)).toNat * 11 + 0, none⟩ = some (.int .i64 e.kind) := lookN_at hg2 0 rfl
           have k1 : look ((F.add Y1).add Y) ⟨vb, vo + ((b : Int)).toNat * 11 + 1, none⟩ = some (.int .i64 e.width) := lookN_at hg2 1 rfl
           have k10 : look ((F.add Y1).add Y) ⟨vb, vo + ((b : Int)).toNat * 11 + 10, none⟩ = some (.slice ga9 e.glyphs.length gc9) := lookN_at hg2 10 rfl
           refine ex ?_
           iterate 2 (refine sq ?_)
           refine rg ?_
           iterate 2 (refine st (h := O) ?_)
           refine st (h := (sdX (z := 11))) ?_
           refine st (h := sdFA) ?_
           refine st (h := (by first | exact sdLG | exact sdW)) ?_
           refine st (h := O) ?_
           refine nl ?_
           refine cD (fun c6 => ?_) (fun c6 => ?_)
           ·have hL6 : lineS gd.1 li (at_ l b) X gd.2 = ⟨S.x + e.width, gd.2, if 0 < e.glyphs.length then s.ps ++ [pcOf e S.x S.run] else s.ps⟩ := by
              unfold lineS
              rw [hx, if_pos c6, hs, hSx, hSr]
            iterate 2 (refine sq ?_)
            refine rg ?_
            iterate 2 (refine st (h := O) ?_)
            refine st (h := (sdX (z := 11))) ?_
            refine st (h := sdFA) ?_
            refine st (h := sdL) ?_
            iterate 2 (refine st (h := O) ?_)
            refine nl ?_
            refine cD (fun c7 => ?_) (fun c7 => ?_)
            ·have hgp : 0 < e.glyphs.length := by omega
             rw [if_pos hgp] at hL6
             refine drK 12 [18, 10, 96] [(10, _), (18, _)] [0, 1, 2, 3, 4, 5, 6, 7, 1008, 1009, 1010, 11, 1012] ?_
             refine dt (hv := by exact sdFA) ?_
             refine dt (hv := by exact sdL) ?_
             iterate 2 (refine dt (hv := by exact O) ?_)
             refine dt (hv := by exact (sdX (z := 11))) ?_
             refine dt (hv := by exact sdLN (hv := by exact hg2)) ?_
             iterate 2 (refine dt (hv := by exact O) ?_)
             refine dclC (hkp := by first | exact Kept.all | exact Kept.k0 | exact Kept.kY | exact Kept.kYY | exact Kept.kY3) (h := by exact fun ι hV hl => (piece_C _ e (.slice ga9 e.glyphs.length gc9) S.x S.run (hri.le hl) hgi (by omega)).ofR (argC (by exact itemR _ e hep _ _) rfl)) ?_
             intro u2 Y2 hQ2 hv2 hp2 hN2
             obtain ⟨pg, rfl, hpg, hRp⟩ := hQ2
             have k1 := hN2.le _ _ k1
             rcases hRp _ hN2.rows with ⟨pb, po, pc, rfl, _⟩ | ⟨_, hz⟩
             rotate_left
             · exfalso
               have hz2 : e.glyphs.length = 0 := by rw [show e.glyphs = [] from hz]; rfl
               omega
             refine dsl (hL := by simp [ntL, ntV, nt2, ntK, argL, cellsL, putL, lnB, Item.cells, Pc.cells, pcOf, nt1_i, nt1_b, nt1_n, nt1_w, nt1_p, nt1_o, nt1_pv, nt1_p0, hgx.pl.nt, hep.nt, setK, delK, zer]) ?_
             first | refine dapN (news := [_, _, _, _, _, _, _]) 500013 true (hflat := by intro h; first | rfl | cases h) (hL := by simp [ntL, ntV, nt2, ntK, argL, cellsL, putL, lnB, Item.cells, Pc.cells, pcOf, nt1_i, nt1_b, nt1_n, nt1_w, nt1_p, nt1_o, nt1_pv, nt1_p0, hgx.pl.nt, hep.nt, setK, delK, zer]) ?_ | refine dapO (news := [_, _, _, _, _, _, _]) 500013 (hflat := by intro h; first | rfl | cases h) (hL := by simp [ntL, ntV, nt2, ntK, argL, cellsL, putL, lnB, Item.cells, Pc.cells, pcOf, nt1_i, nt1_b, nt1_n, nt1_w, nt1_p, nt1_o, nt1_pv, nt1_p0, hgx.pl.nt, hep.nt, setK, delK, zer]) ?_
             intro cap143 hc143 hd143
             refine dt (hv := by exact sdFA) ?_
             refine dso (hkp := by first | exact Kept.all | exact Kept.k0 | exact Kept.kY | exact Kept.kYY | exact Kept.kY3) ?_
             refine dnl ?_
             refine JL.retagC (A := 18) (t := 500013) (u := 96) (off := 2) [(0, _), (2, _), (10, _), (17, _), (18, _)] [(10, _)] ?_ (hL := by simp [ntL, ntV, nt2, ntK, argL, cellsL, putL, lnB, Item.cells, Pc.cells, pcOf, nt1_i, nt1_b, nt1_n, nt1_w, nt1_p, nt1_o, nt1_pv, nt1_p0, hgx.pl.nt, hep.nt, setK, delK, zer])
             refine nl ?_
             refine rg ?_
             iterate 3 (refine st (h := O) ?_)
             refine st (h := (sdX (z := 11))) ?_
             refine st (h := sdFA) ?_
             refine st (h := (by first | exact sdLG | exact sdW)) ?_
             refine st (h := sdA) ?_
             refine st (h := O) ?_
             refine nl ?_
             refine sq ?_
             refine rg ?_
             refine st (h := O) ?_
             refine st (h := sdFA) ?_
             refine so ?_
             refine nl ?_
             refine sq ?_
             refine rg ?_
             refine st (h := sdLN) ?_
             refine so ?_
             refine nl ?_
             rw [hx] at hL6
             rw [hL6]
             have hLR1 : LR 7 TPc (Y2 ++ Y) (s.ps ++ [pcOf e S.x S.run]) _ := LR.snoc (Z := Y2) hLR rfl (Pc.pl_cells (pcOf e S.x S.run) hpg) fun G hG => ⟨_, rfl, hRp G hG.app_left⟩
             try (have hz := List.eq_nil_of_length_eq_zero (l := cs) (by omega)
                  rw [hz, List.nil_append] at hLR1)
             refine J.weak (L0 := [(10, _)]) (K0 := [(10, _), (96, _)]) (by exact ⟨rfl, trivial⟩) (by exact ⟨rfl, rfl, rfl, rfl, trivial⟩) ?_
             rw [add_add, add_add]
             refine rtY (PlainRows.app hp1 (PlainRows.app hY hp2)) fun ι hV => ⟨.slice (some ⟨ι 96, 0, none⟩) _ cap143, rfl, rfl, fun G hG => ?_⟩
             exact readG_LR hLR1 (fun x hx => hG x (List.mem_append_right _ (List.mem_append_left _ hx))) (rd_row (Y := (Y2 ++ Y) ++ Y1) hG rfl hLR1.pl) (by rw [List.length_append, ← hSm]; first | rfl | (dsimp only [List.length_singleton]; omega)) hc143 hd143
            ·rw [if_neg (by omega)] at hL6
             refine sk ?_
             refine rg ?_
             iterate 3 (refine st (h := O) ?_)
             refine st (h := (sdX (z := 11))) ?_
             refine st (h := sdFA) ?_
             refine st (h := (by first | exact sdLG | exact sdW)) ?_
             refine st (h := sdA) ?_
             refine st (h := O) ?_
             refine nl ?_
             refine sq ?_
             refine rg ?_
             refine st (h := O) ?_
             refine st (h := sdFA) ?_
             refine so ?_
             refine nl ?_
             refine sq ?_
             refine rg ?_
             refine st (h := sdLN) ?_
             refine so ?_
             refine nl ?_
             rw [hx] at hL6
             rw [hL6]
             rw [add_add]
             first
               | (refine J.weak (L0 := [(10, _)]) (K0 := [(10, _), (96, _)]) (by exact ⟨rfl, trivial⟩) (by exact ⟨rfl, rfl, rfl, rfl, trivial⟩) ?_
                  refine rtY (PlainRows.app hp1 hY) fun ι hV => ⟨.slice (some ⟨ι 96, 0, none⟩) S.m cap_o, rfl, rfl, fun G hG => ?_⟩
                  exact readG_LR hLR (fun x hx => hG x (List.mem_append_right _ (List.mem_append_left _ hx))) (rd_row (Y := Y ++ Y1) hG rfl hLR.pl) hSm hap1.1 hap1.2)
               | (refine J.weak (L0 := [(10, _)]) (K0 := [(10, _)]) (by exact ⟨rfl, trivial⟩) (by exact ⟨rfl, rfl, trivial⟩) ?_
                  have hps : s.ps = [] := List.eq_nil_of_length_eq_zero (by omega)
                  rw [hps]
                  exact rtY (PlainRows.app hp1 hY) fun ι hV => ⟨.slice none 0 0, rfl, rfl, fun G hG => RL.nil _⟩)
           ·refine sk ?_
            refine sq ?_
            refine rg ?_
            refine st (h := O) ?_
            refine st (h := sdFA) ?_
            refine so ?_
            refine nl ?_
            refine sq ?_
            refine rg ?_
            refine st (h := sdLN) ?_
            refine so ?_
            refine nl ?_
            have hL6 : lineS gd.1 li e X gd.2 = ⟨S.x, gd.2, s.ps⟩ := by
              unfold lineS
              rw [if_neg c6, hs, hSx]
            rw [hL6]
            rw [add_add]
            first
              | (refine J.weak (L0 := [(10, _)]) (K0 := [(10, _), (96, _)]) (by exact ⟨rfl, trivial⟩) (by exact ⟨rfl, rfl, rfl, rfl, trivial⟩) ?_
                 refine rtY (PlainRows.app hp1 hY) fun ι hV => ⟨.slice (some ⟨ι 96, 0, none⟩) S.m cap_o, rfl, rfl, fun G hG => ?_⟩
                 exact readG_LR hLR (fun x hx => hG x (List.mem_append_right _ (List.mem_append_left _ hx))) (rd_row (Y := Y ++ Y1) hG rfl hLR.pl) hSm hap1.1 hap1.2)
              | (refine J.weak (L0 := [(10, _)]) (K0 := [(10, _)]) (by exact ⟨rfl, trivial⟩) (by exact ⟨rfl, rfl, trivial⟩) ?_
                 have hps : s.ps = [] := List.eq_nil_of_length_eq_zero (by omega)
                 rw [hps]
                 exact rtY (PlainRows.app hp1 hY) fun ι hV => ⟨.slice none 0 0, rfl, rfl, fun G hG => RL.nil _⟩)
  · exact absurd hg (by decide)
end Go.Proofs.Ytnkddjdmpnghmaa.Am
