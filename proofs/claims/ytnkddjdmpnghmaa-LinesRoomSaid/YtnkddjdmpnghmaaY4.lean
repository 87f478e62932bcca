/- Rules for walking Go functions, and contracts proved by them (T5, N15, N16, T7, T8, T6, T9, T12, T10, T11, U12, V8, V13, T13, T14, T14c, T15, T16, T17, O1, O3, N11, T18, P1). -/
import Derived.Test.YtnkddjdmpnghmaaY3
import Derived.Below
import Derived.Laws.OwnMore
import Derived.KernelRfl
import Derived.Laws.Bits
import Derived.Laws.Strings
import Derived.Laws.Entries
import Derived.IntWalk
import Derived.Laws.Cells
import Derived.Laws.Append
import Derived.Laws.BytesString
import Derived.Laws.BytesArg
import Derived.Tactics
import Derived.Orders
import Derived.OrdersHeld
import Derived.Test.YtnkddjdmpnghmaaChecked
import Derived.Scope
import Derived.Laws.BitsLemmas
import Derived.Laws.Small
import Derived.Laws.Concat
import Derived.ChangeKeysEq
import Derived.ChangeArms
import Derived.DataReads
import Derived.WideShapes
import Derived.SizedLaws
import Derived.OpenShut
namespace Go.Proofs.Ytnkddjdmpnghmaa.Am
set_option linter.unusedSimpArgs false
set_option linter.unusedVariables false
set_option maxRecDepth 100000
set_option maxHeartbeats 4000000
open Go Go.RowKit
theorem sdCutLH {F : Mem} {K : Own} {L : Slots} {t el : TypeId} {x y z : Operand} {b off n c l h : Nat} {k k' : IntKind} {ti tj : Ty} (hx : evO L x = some (.slice (some ⟨b, off, none⟩) n c) := by rfl) (hy : evO L y = some (.int k (l : Int)) := by rfl) (hz : evO L z = some (.int k' (h : Int)) := by rfl) (ht : Θ.lookup t = some ti := by rfl) (hk : ti.k = .slice el := by rfl) (hj : Θ.lookup el = some tj := by rfl) (h0 : l ≤ h := by omega) (h1 : h ≤ c := by omega) (h2 : l < c := by omega) :
    SD Try.prog F K L (.slice t x (some y) (some z) none) (.slice (some ⟨b, off + l * tj.size, none⟩) (h - l) (c - l)) := by
  have := SD.cutS (P := Try.prog) (F := F) (K := K) (L := L) hT ht hk hj hx (lo := some y) (hi := some z) (l := l) (h := h) ⟨k, hy⟩ ⟨k', hz⟩ h0 h1
  rw [if_neg (by omega)] at this
  exact this
theorem RGl.ixq {F : Mem} {g : Value} {xs : List Int} (h : RGl F g xs) : ∃ a c, g = .slice a xs.length c ∧ RIx F a xs := by
  rcases h with h | ⟨b, o, s, rfl, rfl⟩
  · exact RIx.ofInts h
  · exact ⟨_, 0, rfl, .inr (.inr ⟨b, o, s, rfl⟩), by simp, fun h => by simp at h⟩
theorem look_leN {F F' : Mem} (hl : F.le F') : ∀ {n : Nat} {a : Addr} {cs : List Value}, lookN F a n = some cs → lookN F' a n = some cs := by
  intro n
  induction n with
  | zero => intro a cs h; exact h
  | succ n ih =>
    intro a cs h
    simp only [lookN] at h ⊢
    split at h <;> try (simp at h; done)
    rename_i v hv
    split at h <;> try (simp at h; done)
    rename_i cs' hcs
    rw [hl _ _ hv, ih hcs]; exact h
theorem tg1_n (D : List Nat) (n c : Nat) : tg1 D (.slice none n c) = true := rfl
theorem tg1_o (D : List Nat) (u o n c : Nat) : tg1 D (.slice (some ⟨u, o, some 0⟩) n c) = D.contains u := rfl
theorem tg1_w (D : List Nat) (b o n c : Nat) : tg1 D (.slice (some ⟨b, o, none⟩) n c) = true := rfl
theorem tg1_p (D : List Nat) (u o : Nat) : tg1 D (.pointer (some ⟨u, o, some 0⟩)) = D.contains u := rfl
theorem nt1_p0 (t : Nat) : nt1 t (.pointer none) = true := rfl
theorem nt1_pv (t b o : Nat) : nt1 t (.pointer (some ⟨b, o, none⟩)) = true := rfl
theorem Item.pl_cells (x : Item) {g : Value} (h : plain1 g = true) : ∀ u ∈ x.cells g, plain1 u = true := by
  intro u hu
  simp only [Item.cells, List.mem_cons, List.not_mem_nil, or_false] at hu
  rcases hu with rfl | rfl | rfl | rfl | rfl | rfl | rfl | rfl | rfl | rfl | rfl <;> first | rfl | exact h
theorem RGl.pl1 {F : Mem} {g : Value} {xs : List Int} (h : RGl F g xs) : plain1 g = true := by
  rcases h with (⟨b, o, c, rfl, _⟩ | ⟨rfl, _⟩) | ⟨b, o, s, rfl, _⟩ <;> rfl
theorem RItems.pl1 {F : Mem} {v : Value} {l : List Item} (h : RItems F v l) : plain1 v = true := by
  rcases h with ⟨b, o, c, rfl, _⟩ | ⟨rfl, _⟩ <;> rfl
theorem RItems.part {F : Mem} {b o n : Nat} {l : List Item} (h63 : l.length ≤ 9223372036854775807) (h : ∀ i x, l[i]? = some x → ∃ g, lookN F ⟨b, o + i * 11, none⟩ 11 = some (x.cells g) ∧ RGl F g x.glyphs) {i j : Nat} (hij : i ≤ j) (hj : j ≤ l.length) (k : Nat) (hn : n = j - i) : RItems F (.slice (some ⟨b, o + i * 11, none⟩) n k) ((l.drop i).take (j - i)) := by
  have hlen : ((l.drop i).take (j - i)).length = n := by rw [List.length_take, List.length_drop]; omega
  refine .inl ⟨b, o + i * 11, k, by rw [hlen], by omega, fun d x hd => ?_⟩
  rw [List.getElem?_take] at hd
  split at hd
  · rw [List.getElem?_drop] at hd
    obtain ⟨g, h1, h2⟩ := h _ _ hd
    exact ⟨g, by rw [← h1]; congr 2; omega, h2⟩
  · cases hd
/-- a line, set up: what its cells tell -/
def RLn (F : Mem) (u : Value) (Y : List (Nat × Row)) (l : List Item) (x : Item) (gs : List Int) (fr : Int) (ov : Bool) (al : Int) : Prop := ∃ pb lv g ga gc, u = .pointer (some ⟨pb, 0, none⟩) ∧ RItems F lv l ∧ RGl F g x.glyphs ∧ ∀ G, Rd G Y → lookN G ⟨pb, 0, none⟩ 16 = some (lv :: (x.cells g ++ [.slice ga gs.length gc, .int .i64 fr, .bool ov, .int .i64 al])) ∧ RIx G ga gs ∧ gs.length ≤ gc
theorem RLn.of {F : Mem} {Y : List (Nat × Row)} {ι : Nat → Nat} {ty : TypeId} {pb : Nat} {lv : Value} {x : Item} {g gv : Value} {ga : Option Addr} {gc : Nat} {fr : Int} {ov : Bool} {al : Int} {l : List Item} {gs : List Int}
    (hm : (pb, (lnRow ty lv x g gv fr ov al).r ι) ∈ Y) (hlv : RItems F lv l) (hgl : RGl F g x.glyphs) (hgv : r1 ι gv = .slice ga gs.length gc) (hix : ∀ G, Rd G Y → RIx G ga gs) (hgc : gs.length ≤ gc) : RLn F (.pointer (some ⟨pb, 0, none⟩)) Y l x gs fr ov al := by
  refine ⟨pb, lv, g, ga, gc, rfl, hlv, hgl, fun G hG => ⟨?_, hix G hG, hgc⟩⟩
  have e : ((lnRow ty lv x g gv fr ov al).r ι).cs = lv :: (x.cells g ++ [.slice ga gs.length gc, .int .i64 fr, .bool ov, .int .i64 al]) := by
    simp only [Row.r, lnRow, Item.cells, List.map_cons, List.map_nil, List.cons_append, List.nil_append, r1_plain ι hlv.pl1, r1_plain ι hgl.pl1, hgv]
    rfl
  have := lookN_of (F := G) (a := ⟨pb, 0, none⟩) (cs := ((lnRow ty lv x g gv fr ov al).r ι).cs) fun j v hj => by
    have := hG _ hm j v hj
    simpa [addA] using this
  rw [e] at this
  exact this
theorem glueD_1 {l : List Item} {a1 b : Nat} {w al : Int} (h1 : 0 < w - mW l a1 b) (h2 : al = 0) (h3 : 0 < mY l a1 b) : glueD l a1 b w al = (giveD (glW l a1 b) (sharD (w - mW l a1 b) (glY l a1 b)) 1, false) := by
  rw [glueD, if_pos ⟨h1, h2, h3⟩, freeD]
theorem glueD_2 {l : List Item} {a1 b : Nat} {w al : Int} (h1 : w - mW l a1 b < 0) : glueD l a1 b w al = (giveD (glW l a1 b) (sharD (min (-(w - mW l a1 b)) (mZ l a1 b)) (glZ l a1 b)) (-1), decide (mZ l a1 b < -(w - mW l a1 b))) := by
  unfold glueD freeD
  rw [if_neg (fun h => by have := h.1; omega), if_pos h1]
theorem giveD_len (ws : List Int) (o : Option (List Int)) (sg : Int) : (giveD ws o sg).length = ws.length := by
  cases o with
  | none => rfl
  | some s => exact addTo_len _ _ _ _
theorem giveD_nil (o : Option (List Int)) (sg : Int) : giveD [] o sg = [] := List.eq_nil_of_length_eq_zero (giveD_len _ _ _)
theorem give_n (F : Mem) (t sg : Int) (ws ys : List Int) (lv : Value) (x : Item) (g : Value) (fr : Int) (ov : Bool) (al : Int) (gc c4 r3 r4 n : Nat) (h1 : n = ws.length) (h2 : n = ys.length) (ht : i64ok t) (hw : ∀ x ∈ ws, 0 ≤ x ∧ x ≤ 1073741824) (hn : n ≤ 1024) (hsg : sg = 1 ∨ sg = -1) (plv : plain1 lv = true) (pg : plain1 g = true) :
    CA Try.prog [500001, 500002, 500003, 500004] [500001, 500002, 500003, 500004] 48 [.int .i64 t, .slice (some ⟨500004, 0, some 0⟩) n c4, .int .i64 sg, .pointer (some ⟨500001, 0, some 0⟩)] F
      [(500001, { elem := 64, cs := [.pointer (some ⟨500002, 0, some 0⟩)], room := 1, fz := false, flat := false }), (500002, lnRow 72 lv x g (.slice (some ⟨500003, 0, some 0⟩) n gc) fr ov al), (500003, { elem := 3, cs := ivs ws, room := r3, fz := false, flat := true }), (500004, { elem := 3, cs := ivs ys, room := r4, fz := false, flat := true })]
      (fun v _ K' => v = .tuple #[] ∧ K' = [(500001, { elem := 64, cs := [.pointer (some ⟨500002, 0, some 0⟩)], room := 1, fz := false, flat := false }), (500002, lnRow 72 lv x g (.slice (some ⟨500003, 0, some 0⟩) n gc) fr ov al), (500003, { elem := 3, cs := ivs (giveD ws (sharD t ys) sg), room := r3, fz := false, flat := true }), (500004, { elem := 3, cs := ivs ys, room := r4, fz := false, flat := true })]) := by
  have e := give_CA F t sg ws ys lv x g fr ov al gc c4 r3 r4 ht hw (h2.symm.trans h1) (by omega) hsg plv pg
  rw [← h2, ← h1] at e
  exact e
theorem give0_CA (F : Mem) (t sg : Int) (pb : Nat) (ht : i64ok t) : CA Try.prog [] [] 48 [.int .i64 t, .slice none 0 0, .int .i64 sg, .pointer (some ⟨pb, 0, none⟩)] F [] (fun v _ K' => v = .tuple #[] ∧ K' = []) := by
  generalize ho : sharD t [] = o
  refine CA.go hT Try.func48 Try.ntmps48 ?_
  refine sq ?_
  refine rg ?_
  iterate 2 (refine st (h := O) ?_)
  refine clC (h := by exact fun ι hV hl => fShare_C _ t none 0 [] ht (RIx.none _) (by decide)) ?_
  intro u1 Y1 hQ1 hv1 hp1 hN1
  rw [ho] at hQ1
  rcases o with _ | s
  · obtain rfl : u1 = .tuple #[.slice none 0 0, .bool false] := hQ1
    iterate 5 (refine st (h := O) ?_)
    refine nl ?_
    refine sq ?_
    refine rg ?_
    refine st (h := O) ?_
    refine nl ?_
    refine cB (fun c0 => ?_) (fun c0 => ?_)
    ·try (exact absurd c0 (by decide))
     all_goals
       refine sq ?_
       refine rg ?_
       iterate 3 (refine st (h := O) ?_)
       refine nl ?_
       refine bl ?_
       refine J.loop1 (α := Nat) (fun j => j ≤ s.length) (fun j => [(19, .int .i64 j)]) [(2, _), (3, _), (7, _), (18, _)] (fun j => []) [] (fun j => s.length - j) (0) (by exact ⟨rfl, trivial⟩) (by exact ⟨rfl, rfl, rfl, rfl, trivial⟩) (by exact trivial) ?_ ?_
       · exact Nat.zero_le _
       ·intro j L1 K1 e1 e2 hI
        dsimp only [apV, apR, List.cons_append, List.nil_append] at e1 e2
        subst e1 e2
        refine sq ?_
        refine rg ?_
        refine st (h := O) ?_
        refine nl ?_
        refine sq ?_
        refine cD (fun c1 => ?_) (fun c1 => ?_)
        ·rw [hsl] at c1
         exact absurd c1 (by simp)
        ·refine ex ?_
         first
           | exact absurd c0 (by decide)
           | exact reAY _ hp1 ⟨rfl, rfl⟩
    ·refine sk ?_
     first
       | exact absurd c0 (by decide)
       | exact reAY _ hp1 ⟨rfl, rfl⟩
  · obtain ⟨sa, sc, rfl, hR1⟩ := hQ1
    have hsl := sharD_len ho
    iterate 5 (refine st (h := O) ?_)
    refine nl ?_
    refine sq ?_
    refine rg ?_
    refine st (h := O) ?_
    refine nl ?_
    refine cB (fun c0 => ?_) (fun c0 => ?_)
    ·try (exact absurd c0 (by decide))
     all_goals
       refine sq ?_
       refine rg ?_
       iterate 3 (refine st (h := O) ?_)
       refine nl ?_
       refine bl ?_
       refine J.loop1 (α := Nat) (fun j => j ≤ s.length) (fun j => [(19, .int .i64 j)]) [(2, _), (3, _), (7, _), (18, _)] (fun j => []) [] (fun j => s.length - j) (0) (by exact ⟨rfl, trivial⟩) (by exact ⟨rfl, rfl, rfl, rfl, trivial⟩) (by exact trivial) ?_ ?_
       · exact Nat.zero_le _
       ·intro j L1 K1 e1 e2 hI
        dsimp only [apV, apR, List.cons_append, List.nil_append] at e1 e2
        subst e1 e2
        refine sq ?_
        refine rg ?_
        refine st (h := O) ?_
        refine nl ?_
        refine sq ?_
        refine cD (fun c1 => ?_) (fun c1 => ?_)
        ·rw [hsl] at c1
         exact absurd c1 (by simp)
        ·refine ex ?_
         first
           | exact absurd c0 (by decide)
           | exact reAY _ hp1 ⟨rfl, rfl⟩
    ·refine sk ?_
     first
       | exact absurd c0 (by decide)
       | exact reAY _ hp1 ⟨rfl, rfl⟩
theorem of_C (F Fb : Mem) (v : Value) (l : List Item) (a : Int) (a1 b : Nat) (width ag : Int) (hvb : RItems Fb v l) (hle : Fb.le F) (hg : goodL l = true) (ha : a + 1 = a1) (hb : b < l.length) (hln : lineB l a b = true) (hw : 1 ≤ width ∧ width ≤ 1073741824) (hcap : ∀ a n c, v = .slice (some a) n c → n ≤ c) : C Try.prog 29 [v, .int .i64 a, .int .i64 b, .int .i64 width, .int .i64 ag] F (fun u Y => RLn Fb u Y ((l.drop (fromA l a1 b)).take (b - fromA l a1 b)) (at_ l b) (glueD l a1 b width ag).1 (width - mW l a1 b) (glueD l a1 b width ag).2 ag) := by
  have hv := hvb.le hle
  have hlen := good_len hg
  have hIt := hv
  rcases hvb.cases with ⟨vb, vo, vc, rfl, h63, hrb⟩ | ⟨rfl, rfl⟩
  · have hr : ∀ i, i < l.length → look F ⟨vb, vo + i * 11 + 0, none⟩ = some (.int .i64 (at_ l i).kind) ∧ look F ⟨vb, vo + i * 11 + 1, none⟩ = some (.int .i64 (at_ l i).width) ∧ look F ⟨vb, vo + i * 11 + 2, none⟩ = some (.int .i64 (at_ l i).stretch) ∧ look F ⟨vb, vo + i * 11 + 3, none⟩ = some (.int .i64 (at_ l i).shrink) ∧ look F ⟨vb, vo + i * 11 + 4, none⟩ = some (.int .i64 (at_ l i).cost) ∧ look F ⟨vb, vo + i * 11 + 5, none⟩ = some (.bool (at_ l i).flag) ∧ ∃ g, lookN F ⟨vb, vo + i * 11, none⟩ 11 = some ((at_ l i).cells g) ∧ RGl F g (at_ l i).glyphs := fun i hi => by
      obtain ⟨q0, q1, q2, q3, q4, q5, g, q6, q7⟩ := hrb i hi
      exact ⟨hle _ _ q0, hle _ _ q1, hle _ _ q2, hle _ _ q3, hle _ _ q4, hle _ _ q5, g, look_leN hle q6, q7.le hle⟩
    have hRI : ∀ i x, l[i]? = some x → ∃ g, lookN Fb ⟨vb, vo + i * 11, none⟩ 11 = some (x.cells g) ∧ RGl Fb g x.glyphs := fun i x hx => by
      obtain ⟨_, _, _, _, _, _, g, q1, q2⟩ := hrb i (List.getElem?_eq_some_iff.1 hx).1
      have e := at_get (List.getElem?_eq_some_iff.1 hx).1
      rw [hx, Option.some.injEq] at e
      rw [e]
      exact ⟨g, q1, q2⟩
    have hab : a < b := by
      simp only [lineB, Bool.and_eq_true, decide_eq_true_eq] at hln
      exact hln.1.2
    have hmd : measD l a b = (mW l a1 b, mY l a1 b, mZ l a1 b) := by
      rw [measD, if_pos hln, ha, Int.toNat_natCast, Int.toNat_natCast]
    have hbg : beginAt l b (b - a1) a1 = fromA l a1 b := begin_eq hg _ _ _ (by omega) (by omega)
    have hfl := fromA_le l a1 b
    have bW := mW_bd hg (a1 := a1) hb
    have oW := gl_mem_ok hg (f := Item.width) (i := fromA l a1 b) (d := b - fromA l a1 b) (by omega) okW
    have oY := gl_mem_ok hg (f := Item.stretch) (i := fromA l a1 b) (d := b - fromA l a1 b) (by omega) okY
    have oZ := gl_mem_ok hg (f := Item.shrink) (i := fromA l a1 b) (d := b - fromA l a1 b) (by omega) okZ
    have eY := glY_sum l a1 b
    have eZ := glZ_sum l a1 b
    have nY := gluL_le Item.stretch l (fromA l a1 b) (b - fromA l a1 b)
    have bY := gl_sum oY _ (Nat.le_refl _)
    have bZ := gl_sum oZ _ (Nat.le_refl _)
    obtain ⟨e0b, e1b, e2b, e3b, e4b, e5b, g0, he2b, heib⟩ := hrb b hb
    have e0 := hle _ _ e0b
    have e1 := hle _ _ e1b
    have e2 := hle _ _ e2b
    have e3 := hle _ _ e3b
    have e4 := hle _ _ e4b
    have e5 := hle _ _ e5b
    have he2 := look_leN hle he2b
    have hei := heib.le hle
    clear e0b e1b e2b e3b e4b e5b
    obtain ⟨ea, ec, rfl, hea⟩ := hei.ixq
    have hep := hea.pl
    generalize hfm : fromA l a1 b = fm at *
    refine C.go hT Try.func29 Try.ntmps29 ?_
    refine sq ?_
    refine rg ?_
    refine st (h := O) ?_
    refine nl ?_
    refine sq ?_
    refine rg ?_
    iterate 3 (refine st (h := O) ?_)
    refine cl (h := by exact fun ι hV hl => (hmd ▸ Measure_C _ _ l a b (hv.le hl))) ?_
    iterate 7 (refine st (h := O) ?_)
    refine nl ?_
    refine sq ?_
    refine rg ?_
    refine st (h := O) ?_
    refine st (h := (sdA (a := a) (b := 1)).cast (congrArg (Value.int .i64) ha)) ?_
    refine st (h := O) ?_
    refine nl ?_
    refine sq ?_
    refine bl ?_
    refine J.loop1 (α := Nat) (fun k => a1 ≤ k ∧ k ≤ b ∧ beginAt l b (b - k) k = fm) (fun k => [(1, .int .i64 k)]) [(0, _), (2, _), (3, _), (4, _), (11, _), (12, _), (13, _)] (fun k => []) [] (fun k => b - k) (a1) (by exact ⟨rfl, trivial⟩) (by exact ⟨rfl, rfl, rfl, rfl, rfl, rfl, rfl, trivial⟩) (by exact trivial) ?_ ?_
    · exact ⟨Nat.le_refl _, by omega, hbg⟩
    ·intro k L1 K1 e1 e2 hI
     dsimp only [apV, apR, List.cons_append, List.nil_append] at e1 e2
     subst e1 e2
     obtain ⟨hk1, hk2, hbk⟩ := hI
     have hbs : k < b → beginAt l b (b - k) k = if skipB (at_ l k) = true then beginAt l b (b - (k + 1)) (k + 1) else k := fun hkb => by
       obtain ⟨d, hd⟩ : ∃ d, b - k = d + 1 := ⟨b - k - 1, by omega⟩
       rw [hd, show b - (k + 1) = d from by omega, beginAt, if_pos hkb]
     iterate 2 (refine sq ?_)
     refine J.cut1 (α := Bool) (fun q => q = decide (k < b ∧ skipB (at_ l k) = true)) (fun q => [(57, .bool q)]) [(0, _), (1, _), (2, _), (3, _), (4, _), (11, _), (12, _), (13, _)] (fun q => []) [] (by exact ⟨rfl, rfl, rfl, rfl, rfl, rfl, rfl, rfl, trivial⟩) (by exact trivial) ?_ ?_
     ·refine rg ?_
      iterate 4 (refine st (h := O) ?_)
      refine gD (fun g34 => ?_) (fun g34 => ?_)
      ·have hkb : k < b := by omega
       obtain ⟨r0, r1, r2, r3, r4, r5, g, hg2, hri⟩ := hr k (by omega)
       rw [show vo + k * 11 = vo + (k : Int).toNat * 11 from rfl] at r0 r4
       iterate 2 (refine sg (h := O) ?_)
       refine sg (h := (sdX (z := 11))) ?_
       refine sg (h := sdFA) ?_
       refine sg (h := (by first | exact sdLG | exact sdW)) ?_
       refine sg (h := O) ?_
       iterate 2 (refine st (h := O) ?_)
       refine gN (fun g42 => ?_) (fun g42 => ?_)
       ·refine sg (h := O) ?_
        refine sg (h := O) ?_
        refine sg (h := (sdX (z := 11))) ?_
        refine sg (h := sdFA) ?_
        refine sg (h := (by first | exact sdLG | exact sdW)) ?_
        iterate 2 (refine sg (h := O) ?_)
        refine gD (fun g49 => ?_) (fun g49 => ?_)
        ·refine sp ?_
         iterate 5 (refine sp ?_)
         refine sg (h := O) ?_
         refine st (h := O) ?_
         refine nl ?_
         refine ck1 (_) (by exact ⟨rfl, trivial⟩) (by exact ⟨rfl, rfl, rfl, rfl, rfl, rfl, rfl, rfl, trivial⟩) (by exact trivial) ?_
         have hk := fun h => good_ok hg (i := k) h
         simp only [Item.ok, decide_eq_true_eq] at hk
         simp only [skipB, Bool.or_eq_true, Bool.and_eq_true, decide_eq_true_eq]
         first
           | (rw [eq_comm, decide_eq_false_iff_not]; have := hk (by omega); omega)
           | (rw [eq_comm, decide_eq_true_eq]; have := hk (by omega); omega)
           | (rw [decide_eq_decide]; have := hk (by omega); omega)
        ·refine sg (h := O) ?_
         refine sg (h := O) ?_
         refine sg (h := (sdX (z := 11))) ?_
         refine sg (h := sdFA) ?_
         refine sg (h := (by first | exact sdLG | exact sdW)) ?_
         iterate 2 (refine sg (h := O) ?_)
         refine st (h := O) ?_
         refine nl ?_
         refine ck1 (_) (by exact ⟨rfl, trivial⟩) (by exact ⟨rfl, rfl, rfl, rfl, rfl, rfl, rfl, rfl, trivial⟩) (by exact trivial) ?_
         have hk := fun h => good_ok hg (i := k) h
         simp only [Item.ok, decide_eq_true_eq] at hk
         simp only [skipB, Bool.or_eq_true, Bool.and_eq_true, decide_eq_true_eq]
         first
           | (rw [eq_comm, decide_eq_false_iff_not]; have := hk (by omega); omega)
           | (rw [eq_comm, decide_eq_true_eq]; have := hk (by omega); omega)
           | (rw [decide_eq_decide]; have := hk (by omega); omega)
       ·refine sp ?_
        iterate 6 (refine sp ?_)
        iterate 6 (refine su ?_)
        refine sp ?_
        refine st (h := O) ?_
        refine nl ?_
        refine ck1 (_) (by exact ⟨rfl, trivial⟩) (by exact ⟨rfl, rfl, rfl, rfl, rfl, rfl, rfl, rfl, trivial⟩) (by exact trivial) ?_
        have hk := fun h => good_ok hg (i := k) h
        simp only [Item.ok, decide_eq_true_eq] at hk
        simp only [skipB, Bool.or_eq_true, Bool.and_eq_true, decide_eq_true_eq]
        first
          | (rw [eq_comm, decide_eq_false_iff_not]; have := hk (by omega); omega)
          | (rw [eq_comm, decide_eq_true_eq]; have := hk (by omega); omega)
          | (rw [decide_eq_decide]; have := hk (by omega); omega)
      ·refine sp ?_
       iterate 5 (refine sp ?_)
       iterate 2 (refine st (h := O) ?_)
       iterate 7 (refine sp ?_)
       iterate 6 (refine su ?_)
       refine sp ?_
       refine st (h := O) ?_
       refine nl ?_
       refine ck1 (_) (by exact ⟨rfl, trivial⟩) (by exact ⟨rfl, rfl, rfl, rfl, rfl, rfl, rfl, rfl, trivial⟩) (by exact trivial) ?_
       have hk := fun h => good_ok hg (i := k) h
       simp only [Item.ok, decide_eq_true_eq] at hk
       simp only [skipB, Bool.or_eq_true, Bool.and_eq_true, decide_eq_true_eq]
       first
         | (rw [eq_comm, decide_eq_false_iff_not]; have := hk (by omega); omega)
         | (rw [eq_comm, decide_eq_true_eq]; have := hk (by omega); omega)
         | (rw [decide_eq_decide]; have := hk (by omega); omega)
     ·intro q L1 K1 e1 e2 hI
      dsimp only [List.cons_append, List.nil_append] at e1 e2
      subst e1 e2
      refine cB (fun c0 => ?_) (fun c0 => ?_)
      ·have hsk : k < b ∧ skipB (at_ l k) = true := by rw [c0, eq_comm, decide_eq_true_eq] at hI; exact hI
       refine sk ?_
       refine bl ?_
       refine rg ?_
       refine st (h := O) ?_
       refine st (h := sdA) ?_
       refine st (h := O) ?_
       refine nl ?_
       refine bk ?_
       refine bk1 (k + 1) (by exact ⟨rfl, trivial⟩) (by exact ⟨rfl, rfl, rfl, rfl, rfl, rfl, rfl, trivial⟩) (by exact trivial) ?_ ?_
       · omega
       · exact ⟨by omega, by omega, by rw [hbs hsk.1, if_pos hsk.2] at hbk; exact hbk⟩
      ·have hsk : ¬ (k < b ∧ skipB (at_ l k) = true) := by rw [c0, eq_comm, decide_eq_false_iff_not] at hI; exact hI
       have hke : k = fm := by
         rcases Nat.lt_or_ge k b with h | h
         · rw [hbs h, if_neg (fun e => hsk ⟨h, e⟩)] at hbk; exact hbk
         · rw [show b - k = 0 from by omega] at hbk; exact hbk
       subst hke
       have hvc := hcap _ _ _ rfl
       refine ex ?_
       refine sq ?_
       refine J.cut1 (α := Unit) (fun _ => True) (fun _ => [(14, .pointer (some ⟨14, 0, some 0⟩))]) [(4, _), (12, _), (13, _)] (fun _ => [(14, { elem := 64, cs := [.pointer (some ⟨73, 0, some 0⟩)], room := 1, fz := false, flat := false }), (73, lnRow 72 (.slice (some ⟨vb, vo + k * 11, none⟩) (b - k) (vc - k)) (at_ l b) (.slice ea (at_ l b).glyphs.length ec) (.slice none 0 0) (width - mW l a1 b) false ag)]) [] (by exact ⟨rfl, rfl, rfl, trivial⟩) (by exact trivial) ?_ ?_
       ·refine dr 15 [] [0, 1, 2, 3, 4, 5, 6, 7, 8, 9, 10, 11, 12, 5003] ?_
        iterate 3 (refine dt (hv := by exact O) ?_)
        refine dt (hv := by exact sdCutLH (l := k) (h := b)) ?_
        iterate 2 (refine dt (hv := by exact O) ?_)
        refine dt (hv := by exact (sdX (z := 11))) ?_
        refine dt (hv := by exact sdLN (hv := by exact he2)) ?_
        iterate 2 (refine dt (hv := by exact O) ?_)
        refine dt (hv := by exact sdS) ?_
        iterate 2 (refine dt (hv := by exact O) ?_)
        refine JD.alt (i := 13) (j := 14) [1014, 1015] [1013, 1015] ?_ ?_
        ·refine jbx (hkp := by first | exact Kept.all | exact Kept.k0 | exact Kept.kY | exact Kept.kYY | exact Kept.kY3) (hL := by simp [ntL, ntV, nt2, argL, cellsL, putL, Item.cells, nt1_i, nt1_b, nt1_n, nt1_w, nt1_p, nt1_pv, nt1_p0, hep.nt]) (hK := by simp [ntK, cellsL, putL, Item.cells, nt1_i, nt1_b, nt1_n, nt1_w, nt1_p, nt1_pv, nt1_p0, hep.nt]) ?_
         refine dal (hkp := by first | exact Kept.all | exact Kept.k0 | exact Kept.kY | exact Kept.kYY | exact Kept.kY3) (hL := by simp [ntL, ntV, nt2, argL, cellsL, putL, Item.cells, nt1_i, nt1_b, nt1_n, nt1_w, nt1_p, nt1_pv, nt1_p0, hep.nt]) (hK := by simp [ntK, cellsL, putL, Item.cells, nt1_i, nt1_b, nt1_n, nt1_w, nt1_p, nt1_pv, nt1_p0, hep.nt]) ?_
         refine dso (hkp := by first | exact Kept.all | exact Kept.k0 | exact Kept.kY | exact Kept.kYY | exact Kept.kY3) ?_
         refine dn ?_
         refine ck1 (()) (by exact ⟨rfl, trivial⟩) (by exact ⟨rfl, rfl, rfl, trivial⟩) (by exact ⟨rfl, rfl, rfl, rfl, trivial⟩) ?_
         trivial
        ·refine jal (hkp := by first | exact Kept.all | exact Kept.k0 | exact Kept.kY | exact Kept.kYY | exact Kept.kY3) (hL := by simp [ntL, ntV, nt2, argL, cellsL, putL, Item.cells, nt1_i, nt1_b, nt1_n, nt1_w, nt1_p, nt1_pv, nt1_p0, hep.nt]) (hK := by simp [ntK, cellsL, putL, Item.cells, nt1_i, nt1_b, nt1_n, nt1_w, nt1_p, nt1_pv, nt1_p0, hep.nt]) ?_
         refine dbx (hkp := by first | exact Kept.all | exact Kept.k0 | exact Kept.kY | exact Kept.kYY | exact Kept.kY3) (hL := by simp [ntL, ntV, nt2, argL, cellsL, putL, Item.cells, nt1_i, nt1_b, nt1_n, nt1_w, nt1_p, nt1_pv, nt1_p0, hep.nt]) (hK := by simp [ntK, cellsL, putL, Item.cells, nt1_i, nt1_b, nt1_n, nt1_w, nt1_p, nt1_pv, nt1_p0, hep.nt]) ?_
         refine dso (hkp := by first | exact Kept.all | exact Kept.k0 | exact Kept.kY | exact Kept.kYY | exact Kept.kY3) ?_
         refine dn ?_
         refine ck1 (()) (by exact ⟨rfl, trivial⟩) (by exact ⟨rfl, rfl, rfl, trivial⟩) (by exact ⟨rfl, rfl, rfl, rfl, trivial⟩) ?_
         trivial
       ·intro _ L1 K1 e1 e2 hI
        dsimp only [List.cons_append, List.nil_append] at e1 e2
        subst e1 e2
        refine sq ?_
        refine rg ?_
        refine JL.retagP (d := 14) (t := 14) (u := 500001) (off := 0) [(4, _), (12, _), (13, _)] [(73, _)] ?_ (hK := by simp [ntL, ntV, nt2, ntK, argL, cellsL, putL, lnRow, Item.cells, nt1_i, nt1_b, nt1_n, nt1_w, nt1_p, nt1_o, nt1_pv, nt1_p0, hep.nt, setK, delK, zer])
        refine JL.retagCP (A := 500001) (t := 73) (u := 500002) (off := 0) [(14, _), (4, _), (12, _), (13, _)] [] ?_ (hru := by simp [ntL, ntV, nt2, ntK, argL, cellsL, putL, lnRow, Item.cells, nt1_i, nt1_b, nt1_n, nt1_w, nt1_p, nt1_o, nt1_pv, nt1_p0, hep.nt, setK, delK, zer])
        iterate 2 (refine st (h := O) ?_)
        refine nl ?_
        iterate 2 (refine sq ?_)
        refine rg ?_
        refine st (h := sdL) ?_
        refine st (h := O) ?_
        refine st (h := sdFA) ?_
        refine st (h := sdL) ?_
        iterate 2 (refine st (h := O) ?_)
        refine nl ?_
        refine bl ?_
        refine J.loop4 (α := Option (Nat × Nat × Nat)) (β := Nat) (γ := Nat) (δ := List Value × List Value × List Value) (fun o m d S => k + d ≤ b ∧ m = (gluL Item.width l k d).length ∧ apB (o.map Prod.fst) m ∧ apB (o.map sn2) m ∧ apB (o.map sn3) m ∧ S.1 = ivs (gluL Item.width l k d) ∧ S.2.1 = ivs (gluL Item.stretch l k d) ∧ S.2.2 = ivs (gluL Item.shrink l k d)) (fun o m d S => [(15, apV 500004 (o.map sn2) m), (16, apV 500005 (o.map sn3) m), (79, .int .i64 d)]) [(4, _), (12, _), (13, _), (14, _), (77, _), (78, _)] (fun o m d S => apR 500003 3 1 true (o.map Prod.fst) S.1 ++ apR 500004 3 1 true (o.map sn2) S.2.1 ++ apR 500005 3 1 true (o.map sn3) S.2.2 ++ [(500002, lnRow 72 (.slice (some ⟨vb, vo + k * 11, none⟩) (b - k) (vc - k)) (at_ l b) (.slice ea (at_ l b).glyphs.length ec) (apV 500003 (o.map Prod.fst) m) (width - mW l a1 b) false ag)]) [(500001, _)] (fun o m d S => b - k - d) (none) (0) (0) (([], [], [])) (by exact ⟨rfl, rfl, rfl, trivial⟩) (by exact ⟨rfl, rfl, rfl, rfl, rfl, rfl, trivial⟩) (by exact (by repeat' first | exact trivial | refine And.intro rfl ?_)) ?_ ?_
        · exact ⟨by omega, rfl, rfl, rfl, rfl, rfl, rfl, rfl⟩
        ·intro o m d S L1 K1 e1 e2 hI
         rcases o with _ | cap_o
         all_goals
          dsimp only [apV, apR, List.cons_append, List.nil_append] at e1 e2
          subst e1 e2
          obtain ⟨hd, hm, ap1, ap2, ap3, hS1, hS2, hS3⟩ := hI
          simp only [apB, Option.map_none, Option.map_some] at ap1 ap2 ap3
          have lm : m ≤ d := by rw [hm]; exact gluL_le _ _ _ _
          have l2 : m = (gluL Item.stretch l k d).length := hm.trans (gluL_len _ _ l k d)
          have l3 : m = (gluL Item.shrink l k d).length := hm.trans (gluL_len _ _ l k d)
          let ocap : Option (Nat × Nat × Nat) := by first | exact some cap_o | exact none
          refine sq ?_
          refine rg ?_
          refine st (h := O) ?_
          refine nl ?_
          refine sq ?_
          refine cD (fun c1 => ?_) (fun c1 => ?_)
          ·have hdl : k + d < b := by omega
           obtain ⟨r0, r1, r2, r3, r4, r5, g9, hg2, hri⟩ := hr (k + d) (by omega)
           obtain ⟨ia, ic, rfl, hia⟩ := hri.ixq
           have hip := hia.pl
           rw [show vo + (k + d) * 11 = vo + k * 11 + (d : Int).toNat * 11 from by rw [Int.toNat_natCast]; omega] at hg2
           have k1 : S.1.length = m := by rw [hS1, ivs_length, hm]
           have k2 : S.2.1.length = m := by rw [hS2, ivs_length, l2]
           have k3 : S.2.2.length = m := by rw [hS3, ivs_length, l3]
           refine sk ?_
           refine sq ?_
           refine bl ?_
           refine sq ?_
           refine rg ?_
           refine st (h := (sdX (z := 11))) ?_
           refine st (h := sdLN (hv := by exact hg2)) ?_
           refine al (hL := by simp [ntL, ntV, nt2, ntK, argL, cellsL, putL, lnRow, Item.cells, nt1_i, nt1_b, nt1_n, nt1_w, nt1_p, nt1_o, nt1_pv, nt1_p0, hep.nt, hip.nt]) (hK := by simp [ntL, ntV, nt2, ntK, argL, cellsL, putL, lnRow, Item.cells, nt1_i, nt1_b, nt1_n, nt1_w, nt1_p, nt1_o, nt1_pv, nt1_p0, hep.nt, hip.nt]) ?_
           refine so ?_
           refine nl ?_
           refine sq ?_
           refine rg ?_
           refine JL.flat (by exact Item.pl_cells _ (hip.pl _ _)) ?_
           refine st (h := sdFA) ?_
           refine st (h := sdL) ?_
           refine st (h := O) ?_
           refine nl ?_
           refine cD (fun c2 => ?_) (fun c2 => ?_)
           ·have g1 : gluL Item.width l k (d + 1) = gluL Item.width l k d ++ [(at_ l (k + d)).width] := by rw [gluL, if_pos c2]
            have g2 : gluL Item.stretch l k (d + 1) = gluL Item.stretch l k d ++ [(at_ l (k + d)).stretch] := by rw [gluL, if_pos c2]
            have g3 : gluL Item.shrink l k (d + 1) = gluL Item.shrink l k d ++ [(at_ l (k + d)).shrink] := by rw [gluL, if_pos c2]
            refine sq ?_
            refine drK (tgk := by simp [tgK, lnRow, Item.cells, cellsL, putL, tg1_i, tg1_b, tg1_n, tg1_o, tg1_w, tg1_p, hep.tg, hip.tg]) 11 [18, 500002, 500001, 500003, 500004, 500005] [(500001, _), (18, _), (500002, _)] [0, 1, 2, 3, 4, 5, 6, 1007, 1008, 2009, 10, 1011] ?_
            iterate 2 (refine dt (hv := by exact sdL) ?_)
            refine dt (hv := by exact O) ?_
            refine dt (hv := by exact sdFA) ?_
            refine dt (hv := by exact sdL) ?_
            refine dt (hv := by exact sdFA) ?_
            refine dt (hv := by exact sdL) ?_
            refine dsl (hL := by simp [ntL, ntV, nt2, ntK, argL, cellsL, putL, lnRow, Item.cells, nt1_i, nt1_b, nt1_n, nt1_w, nt1_p, nt1_o, nt1_pv, nt1_p0, hep.nt, hip.nt, setK, delK, zer]) (hK := by simp [ntL, ntV, nt2, ntK, argL, cellsL, putL, lnRow, Item.cells, nt1_i, nt1_b, nt1_n, nt1_w, nt1_p, nt1_o, nt1_pv, nt1_p0, hep.nt, hip.nt, setK, delK, zer]) ?_
            first | refine dapN (news := [_]) 500013 true (hL := by simp [ntL, ntV, nt2, ntK, argL, cellsL, putL, lnRow, Item.cells, nt1_i, nt1_b, nt1_n, nt1_w, nt1_p, nt1_o, nt1_pv, nt1_p0, hep.nt, hip.nt, setK, delK, zer]) (hK := by simp [ntL, ntV, nt2, ntK, argL, cellsL, putL, lnRow, Item.cells, nt1_i, nt1_b, nt1_n, nt1_w, nt1_p, nt1_o, nt1_pv, nt1_p0, hep.nt, hip.nt, setK, delK, zer]) ?_ | refine dapO (news := [_]) 500013 (hL := by simp [ntL, ntV, nt2, ntK, argL, cellsL, putL, lnRow, Item.cells, nt1_i, nt1_b, nt1_n, nt1_w, nt1_p, nt1_o, nt1_pv, nt1_p0, hep.nt, hip.nt, setK, delK, zer]) (hK := by simp [ntL, ntV, nt2, ntK, argL, cellsL, putL, lnRow, Item.cells, nt1_i, nt1_b, nt1_n, nt1_w, nt1_p, nt1_o, nt1_pv, nt1_p0, hep.nt, hip.nt, setK, delK, zer]) ?_
            intro cap94 hc94 hd94
            refine dq (hv := by exact fun _ _ => O) ?_
            refine dt (hv := by exact sdFA) ?_
            refine dso (hkp := by first | exact Kept.all | exact Kept.k0 | exact Kept.kY | exact Kept.kYY | exact Kept.kY3) ?_
            refine dn ?_
            first | refine J.weak (L0 := [(4, _), (12, _), (13, _), (14, _), (15, _), (16, _), (18, _), (77, _), (78, _), (79, _)]) (K0 := [(500013, _), (93, _), (18, _), (500002, _), (500001, _), (500004, _), (500005, _)]) (by exact ⟨rfl, rfl, rfl, rfl, rfl, rfl, rfl, rfl, rfl, rfl, trivial⟩) (by exact ⟨rfl, rfl, rfl, rfl, rfl, rfl, rfl, rfl, rfl, rfl, rfl, rfl, rfl, rfl, trivial⟩) ?_ | refine J.weak (L0 := [(4, _), (12, _), (13, _), (14, _), (15, _), (16, _), (18, _), (77, _), (78, _), (79, _)]) (K0 := [(500013, _), (93, _), (18, _), (500002, _), (500001, _), (500005, _)]) (by exact ⟨rfl, rfl, rfl, rfl, rfl, rfl, rfl, rfl, rfl, rfl, trivial⟩) (by exact ⟨rfl, rfl, rfl, rfl, rfl, rfl, rfl, rfl, rfl, rfl, rfl, rfl, trivial⟩) ?_ | refine J.weak (L0 := [(4, _), (12, _), (13, _), (14, _), (15, _), (16, _), (18, _), (77, _), (78, _), (79, _)]) (K0 := [(500013, _), (93, _), (18, _), (500002, _), (500001, _), (500004, _)]) (by exact ⟨rfl, rfl, rfl, rfl, rfl, rfl, rfl, rfl, rfl, rfl, trivial⟩) (by exact ⟨rfl, rfl, rfl, rfl, rfl, rfl, rfl, rfl, rfl, rfl, rfl, rfl, trivial⟩) ?_ | refine J.weak (L0 := [(4, _), (12, _), (13, _), (14, _), (15, _), (16, _), (18, _), (77, _), (78, _), (79, _)]) (K0 := [(500013, _), (93, _), (18, _), (500002, _), (500001, _)]) (by exact ⟨rfl, rfl, rfl, rfl, rfl, rfl, rfl, rfl, rfl, rfl, trivial⟩) (by exact ⟨rfl, rfl, rfl, rfl, rfl, rfl, rfl, rfl, rfl, rfl, trivial⟩) ?_
            refine drK (tgk := by simp [tgK, lnRow, Item.cells, cellsL, putL, tg1_i, tg1_b, tg1_n, tg1_o, tg1_w, tg1_p, hep.tg, hip.tg]) 12 [500013, 93, 18, 500002, 500001, 500004, 500005] [(18, _)] [0, 1, 2, 5, 6, 7, 5006] ?_
            refine dt (hv := by exact O) ?_
            refine dt (hv := by exact sdFA) ?_
            refine dt (hv := by exact sdL) ?_
            refine dt (hv := by exact O) ?_
            refine dt (hv := by exact sdFA) ?_
            refine dt (hv := by exact sdL) ?_
            refine JD.alt (i := 3) (j := 8) [5005] [1003, 1004, 1009, 10, 11] ?_ ?_
            ·refine jsl (hkp := by first | exact Kept.all | exact Kept.k0 | exact Kept.kY | exact Kept.kYY | exact Kept.kY3) (hL := by simp [ntL, ntV, nt2, ntK, argL, cellsL, putL, lnRow, Item.cells, nt1_i, nt1_b, nt1_n, nt1_w, nt1_p, nt1_o, nt1_pv, nt1_p0, hep.nt, hip.nt, setK, delK, zer]) (hK := by simp [ntL, ntV, nt2, ntK, argL, cellsL, putL, lnRow, Item.cells, nt1_i, nt1_b, nt1_n, nt1_w, nt1_p, nt1_o, nt1_pv, nt1_p0, hep.nt, hip.nt, setK, delK, zer]) ?_
             refine JD.alt (i := 4) (j := 8) [1008, 1009, 10, 11] [1004, 1009, 10, 11] ?_ ?_
             ·first | refine japN (news := [_]) 500014 true (hL := by simp [ntL, ntV, nt2, ntK, argL, cellsL, putL, lnRow, Item.cells, nt1_i, nt1_b, nt1_n, nt1_w, nt1_p, nt1_o, nt1_pv, nt1_p0, hep.nt, hip.nt, setK, delK, zer]) (hK := by simp [ntL, ntV, nt2, ntK, argL, cellsL, putL, lnRow, Item.cells, nt1_i, nt1_b, nt1_n, nt1_w, nt1_p, nt1_o, nt1_pv, nt1_p0, hep.nt, hip.nt, setK, delK, zer]) ?_ | refine japO (news := [_]) 500014 (hL := by simp [ntL, ntV, nt2, ntK, argL, cellsL, putL, lnRow, Item.cells, nt1_i, nt1_b, nt1_n, nt1_w, nt1_p, nt1_o, nt1_pv, nt1_p0, hep.nt, hip.nt, setK, delK, zer]) (hK := by simp [ntL, ntV, nt2, ntK, argL, cellsL, putL, lnRow, Item.cells, nt1_i, nt1_b, nt1_n, nt1_w, nt1_p, nt1_o, nt1_pv, nt1_p0, hep.nt, hip.nt, setK, delK, zer]) ?_
              intro cap101 hc101 hd101
              refine dsl (hL := by simp [ntL, ntV, nt2, ntK, argL, cellsL, putL, lnRow, Item.cells, nt1_i, nt1_b, nt1_n, nt1_w, nt1_p, nt1_o, nt1_pv, nt1_p0, hep.nt, hip.nt, setK, delK, zer]) (hK := by simp [ntL, ntV, nt2, ntK, argL, cellsL, putL, lnRow, Item.cells, nt1_i, nt1_b, nt1_n, nt1_w, nt1_p, nt1_o, nt1_pv, nt1_p0, hep.nt, hip.nt, setK, delK, zer]) ?_
              first | refine dapN (news := [_]) 500015 true (hL := by simp [ntL, ntV, nt2, ntK, argL, cellsL, putL, lnRow, Item.cells, nt1_i, nt1_b, nt1_n, nt1_w, nt1_p, nt1_o, nt1_pv, nt1_p0, hep.nt, hip.nt, setK, delK, zer]) (hK := by simp [ntL, ntV, nt2, ntK, argL, cellsL, putL, lnRow, Item.cells, nt1_i, nt1_b, nt1_n, nt1_w, nt1_p, nt1_o, nt1_pv, nt1_p0, hep.nt, hip.nt, setK, delK, zer]) ?_ | refine dapO (news := [_]) 500015 (hL := by simp [ntL, ntV, nt2, ntK, argL, cellsL, putL, lnRow, Item.cells, nt1_i, nt1_b, nt1_n, nt1_w, nt1_p, nt1_o, nt1_pv, nt1_p0, hep.nt, hip.nt, setK, delK, zer]) (hK := by simp [ntL, ntV, nt2, ntK, argL, cellsL, putL, lnRow, Item.cells, nt1_i, nt1_b, nt1_n, nt1_w, nt1_p, nt1_o, nt1_pv, nt1_p0, hep.nt, hip.nt, setK, delK, zer]) ?_
              intro cap106 hc106 hd106
              iterate 2 (refine dt (hv := by exact O) ?_)
              refine dn ?_
              refine bk ?_
              refine rg ?_
              refine JL.retagC (A := 500002) (t := 500013) (u := 500003) (off := 12) [(79, _), (14, _), (15, _), (16, _), (4, _), (12, _), (13, _), (77, _), (78, _)] [(500014, _), (500015, _), (500001, _)] ?_ (hK := by simp [ntL, ntV, nt2, ntK, argL, cellsL, putL, lnRow, Item.cells, nt1_i, nt1_b, nt1_n, nt1_w, nt1_p, nt1_o, nt1_pv, nt1_p0, hep.nt, hip.nt, setK, delK, zer])
              refine JL.retagS (d := 15) (t := 500014) (u := 500004) [(79, _), (14, _), (16, _), (4, _), (12, _), (13, _), (77, _), (78, _)] [(500003, _), (500002, _), (500015, _), (500001, _)] ?_ (hK := by simp [ntL, ntV, nt2, ntK, argL, cellsL, putL, lnRow, Item.cells, nt1_i, nt1_b, nt1_n, nt1_w, nt1_p, nt1_o, nt1_pv, nt1_p0, hep.nt, hip.nt, setK, delK, zer])
              refine JL.retagS (d := 16) (t := 500015) (u := 500005) [(15, _), (79, _), (14, _), (4, _), (12, _), (13, _), (77, _), (78, _)] [(500004, _), (500003, _), (500002, _), (500001, _)] ?_ (hK := by simp [ntL, ntV, nt2, ntK, argL, cellsL, putL, lnRow, Item.cells, nt1_i, nt1_b, nt1_n, nt1_w, nt1_p, nt1_o, nt1_pv, nt1_p0, hep.nt, hip.nt, setK, delK, zer])
              refine st (h := sdA) ?_
              refine st (h := O) ?_
              refine nl ?_
              refine bk4 (some (_, _, _)) (_) (d + 1) ((_, _, _)) (by exact ⟨rfl, rfl, rfl, trivial⟩) (by exact ⟨rfl, rfl, rfl, rfl, rfl, rfl, trivial⟩) (by exact (by repeat' first | exact trivial | refine And.intro rfl ?_)) ?_ ?_
              · omega
              · refine ⟨by omega, by rw [g1, List.length_append, ← hm]; show _ = m + 1; omega, by simp only [apB, Option.map_some, sn2, sn3]; omega, by simp only [apB, Option.map_some, sn2, sn3]; omega, by simp only [apB, Option.map_some, sn2, sn3]; omega, ?_, ?_, ?_⟩
                · rw [g1, ivs_append, ← hS1]
                  first
                    | rfl
                    | (rw [List.eq_nil_of_length_eq_zero (l := S.1) (by omega)]; rfl)
                · rw [g2, ivs_append, ← hS2]
                  first
                    | rfl
                    | (rw [List.eq_nil_of_length_eq_zero (l := S.2.1) (by omega)]; rfl)
                · rw [g3, ivs_append, ← hS3]
                  first
                    | rfl
                    | (rw [List.eq_nil_of_length_eq_zero (l := S.2.2) (by omega)]; rfl)
             ·refine jsl (hkp := by first | exact Kept.all | exact Kept.k0 | exact Kept.kY | exact Kept.kYY | exact Kept.kY3) (hL := by simp [ntL, ntV, nt2, ntK, argL, cellsL, putL, lnRow, Item.cells, nt1_i, nt1_b, nt1_n, nt1_w, nt1_p, nt1_o, nt1_pv, nt1_p0, hep.nt, hip.nt, setK, delK, zer]) (hK := by simp [ntL, ntV, nt2, ntK, argL, cellsL, putL, lnRow, Item.cells, nt1_i, nt1_b, nt1_n, nt1_w, nt1_p, nt1_o, nt1_pv, nt1_p0, hep.nt, hip.nt, setK, delK, zer]) ?_
              first | refine dapN (news := [_]) 500014 true (hL := by simp [ntL, ntV, nt2, ntK, argL, cellsL, putL, lnRow, Item.cells, nt1_i, nt1_b, nt1_n, nt1_w, nt1_p, nt1_o, nt1_pv, nt1_p0, hep.nt, hip.nt, setK, delK, zer]) (hK := by simp [ntL, ntV, nt2, ntK, argL, cellsL, putL, lnRow, Item.cells, nt1_i, nt1_b, nt1_n, nt1_w, nt1_p, nt1_o, nt1_pv, nt1_p0, hep.nt, hip.nt, setK, delK, zer]) ?_ | refine dapO (news := [_]) 500014 (hL := by simp [ntL, ntV, nt2, ntK, argL, cellsL, putL, lnRow, Item.cells, nt1_i, nt1_b, nt1_n, nt1_w, nt1_p, nt1_o, nt1_pv, nt1_p0, hep.nt, hip.nt, setK, delK, zer]) (hK := by simp [ntL, ntV, nt2, ntK, argL, cellsL, putL, lnRow, Item.cells, nt1_i, nt1_b, nt1_n, nt1_w, nt1_p, nt1_o, nt1_pv, nt1_p0, hep.nt, hip.nt, setK, delK, zer]) ?_
              intro cap101 hc101 hd101
              first | refine dapN (news := [_]) 500015 true (hL := by simp [ntL, ntV, nt2, ntK, argL, cellsL, putL, lnRow, Item.cells, nt1_i, nt1_b, nt1_n, nt1_w, nt1_p, nt1_o, nt1_pv, nt1_p0, hep.nt, hip.nt, setK, delK, zer]) (hK := by simp [ntL, ntV, nt2, ntK, argL, cellsL, putL, lnRow, Item.cells, nt1_i, nt1_b, nt1_n, nt1_w, nt1_p, nt1_o, nt1_pv, nt1_p0, hep.nt, hip.nt, setK, delK, zer]) ?_ | refine dapO (news := [_]) 500015 (hL := by simp [ntL, ntV, nt2, ntK, argL, cellsL, putL, lnRow, Item.cells, nt1_i, nt1_b, nt1_n, nt1_w, nt1_p, nt1_o, nt1_pv, nt1_p0, hep.nt, hip.nt, setK, delK, zer]) (hK := by simp [ntL, ntV, nt2, ntK, argL, cellsL, putL, lnRow, Item.cells, nt1_i, nt1_b, nt1_n, nt1_w, nt1_p, nt1_o, nt1_pv, nt1_p0, hep.nt, hip.nt, setK, delK, zer]) ?_
              intro cap106 hc106 hd106
              iterate 2 (refine dt (hv := by exact O) ?_)
              refine dn ?_
              refine bk ?_
              refine rg ?_
              refine JL.retagC (A := 500002) (t := 500013) (u := 500003) (off := 12) [(79, _), (14, _), (15, _), (16, _), (4, _), (12, _), (13, _), (77, _), (78, _)] [(500014, _), (500015, _), (500001, _)] ?_ (hK := by simp [ntL, ntV, nt2, ntK, argL, cellsL, putL, lnRow, Item.cells, nt1_i, nt1_b, nt1_n, nt1_w, nt1_p, nt1_o, nt1_pv, nt1_p0, hep.nt, hip.nt, setK, delK, zer])
              refine JL.retagS (d := 15) (t := 500014) (u := 500004) [(79, _), (14, _), (16, _), (4, _), (12, _), (13, _), (77, _), (78, _)] [(500003, _), (500002, _), (500015, _), (500001, _)] ?_ (hK := by simp [ntL, ntV, nt2, ntK, argL, cellsL, putL, lnRow, Item.cells, nt1_i, nt1_b, nt1_n, nt1_w, nt1_p, nt1_o, nt1_pv, nt1_p0, hep.nt, hip.nt, setK, delK, zer])
              refine JL.retagS (d := 16) (t := 500015) (u := 500005) [(15, _), (79, _), (14, _), (4, _), (12, _), (13, _), (77, _), (78, _)] [(500004, _), (500003, _), (500002, _), (500001, _)] ?_ (hK := by simp [ntL, ntV, nt2, ntK, argL, cellsL, putL, lnRow, Item.cells, nt1_i, nt1_b, nt1_n, nt1_w, nt1_p, nt1_o, nt1_pv, nt1_p0, hep.nt, hip.nt, setK, delK, zer])
              refine st (h := sdA) ?_
              refine st (h := O) ?_
              refine nl ?_
              refine bk4 (some (_, _, _)) (_) (d + 1) ((_, _, _)) (by exact ⟨rfl, rfl, rfl, trivial⟩) (by exact ⟨rfl, rfl, rfl, rfl, rfl, rfl, trivial⟩) (by exact (by repeat' first | exact trivial | refine And.intro rfl ?_)) ?_ ?_
              · omega
              · refine ⟨by omega, by rw [g1, List.length_append, ← hm]; show _ = m + 1; omega, by simp only [apB, Option.map_some, sn2, sn3]; omega, by simp only [apB, Option.map_some, sn2, sn3]; omega, by simp only [apB, Option.map_some, sn2, sn3]; omega, ?_, ?_, ?_⟩
                · rw [g1, ivs_append, ← hS1]
                  first
                    | rfl
                    | (rw [List.eq_nil_of_length_eq_zero (l := S.1) (by omega)]; rfl)
                · rw [g2, ivs_append, ← hS2]
                  first
                    | rfl
                    | (rw [List.eq_nil_of_length_eq_zero (l := S.2.1) (by omega)]; rfl)
                · rw [g3, ivs_append, ← hS3]
                  first
                    | rfl
                    | (rw [List.eq_nil_of_length_eq_zero (l := S.2.2) (by omega)]; rfl)
            ·refine jsl (hkp := by first | exact Kept.all | exact Kept.k0 | exact Kept.kY | exact Kept.kYY | exact Kept.kY3) (hL := by simp [ntL, ntV, nt2, ntK, argL, cellsL, putL, lnRow, Item.cells, nt1_i, nt1_b, nt1_n, nt1_w, nt1_p, nt1_o, nt1_pv, nt1_p0, hep.nt, hip.nt, setK, delK, zer]) (hK := by simp [ntL, ntV, nt2, ntK, argL, cellsL, putL, lnRow, Item.cells, nt1_i, nt1_b, nt1_n, nt1_w, nt1_p, nt1_o, nt1_pv, nt1_p0, hep.nt, hip.nt, setK, delK, zer]) ?_
             refine dsl (hL := by simp [ntL, ntV, nt2, ntK, argL, cellsL, putL, lnRow, Item.cells, nt1_i, nt1_b, nt1_n, nt1_w, nt1_p, nt1_o, nt1_pv, nt1_p0, hep.nt, hip.nt, setK, delK, zer]) (hK := by simp [ntL, ntV, nt2, ntK, argL, cellsL, putL, lnRow, Item.cells, nt1_i, nt1_b, nt1_n, nt1_w, nt1_p, nt1_o, nt1_pv, nt1_p0, hep.nt, hip.nt, setK, delK, zer]) ?_
             first | refine dapN (news := [_]) 500014 true (hL := by simp [ntL, ntV, nt2, ntK, argL, cellsL, putL, lnRow, Item.cells, nt1_i, nt1_b, nt1_n, nt1_w, nt1_p, nt1_o, nt1_pv, nt1_p0, hep.nt, hip.nt, setK, delK, zer]) (hK := by simp [ntL, ntV, nt2, ntK, argL, cellsL, putL, lnRow, Item.cells, nt1_i, nt1_b, nt1_n, nt1_w, nt1_p, nt1_o, nt1_pv, nt1_p0, hep.nt, hip.nt, setK, delK, zer]) ?_ | refine dapO (news := [_]) 500014 (hL := by simp [ntL, ntV, nt2, ntK, argL, cellsL, putL, lnRow, Item.cells, nt1_i, nt1_b, nt1_n, nt1_w, nt1_p, nt1_o, nt1_pv, nt1_p0, hep.nt, hip.nt, setK, delK, zer]) (hK := by simp [ntL, ntV, nt2, ntK, argL, cellsL, putL, lnRow, Item.cells, nt1_i, nt1_b, nt1_n, nt1_w, nt1_p, nt1_o, nt1_pv, nt1_p0, hep.nt, hip.nt, setK, delK, zer]) ?_
             intro cap101 hc101 hd101
             first | refine dapN (news := [_]) 500015 true (hL := by simp [ntL, ntV, nt2, ntK, argL, cellsL, putL, lnRow, Item.cells, nt1_i, nt1_b, nt1_n, nt1_w, nt1_p, nt1_o, nt1_pv, nt1_p0, hep.nt, hip.nt, setK, delK, zer]) (hK := by simp [ntL, ntV, nt2, ntK, argL, cellsL, putL, lnRow, Item.cells, nt1_i, nt1_b, nt1_n, nt1_w, nt1_p, nt1_o, nt1_pv, nt1_p0, hep.nt, hip.nt, setK, delK, zer]) ?_ | refine dapO (news := [_]) 500015 (hL := by simp [ntL, ntV, nt2, ntK, argL, cellsL, putL, lnRow, Item.cells, nt1_i, nt1_b, nt1_n, nt1_w, nt1_p, nt1_o, nt1_pv, nt1_p0, hep.nt, hip.nt, setK, delK, zer]) (hK := by simp [ntL, ntV, nt2, ntK, argL, cellsL, putL, lnRow, Item.cells, nt1_i, nt1_b, nt1_n, nt1_w, nt1_p, nt1_o, nt1_pv, nt1_p0, hep.nt, hip.nt, setK, delK, zer]) ?_
             intro cap106 hc106 hd106
             iterate 2 (refine dt (hv := by exact O) ?_)
             refine dn ?_
             refine bk ?_
             refine rg ?_
             refine JL.retagC (A := 500002) (t := 500013) (u := 500003) (off := 12) [(79, _), (14, _), (15, _), (16, _), (4, _), (12, _), (13, _), (77, _), (78, _)] [(500014, _), (500015, _), (500001, _)] ?_ (hK := by simp [ntL, ntV, nt2, ntK, argL, cellsL, putL, lnRow, Item.cells, nt1_i, nt1_b, nt1_n, nt1_w, nt1_p, nt1_o, nt1_pv, nt1_p0, hep.nt, hip.nt, setK, delK, zer])
             refine JL.retagS (d := 15) (t := 500014) (u := 500004) [(79, _), (14, _), (16, _), (4, _), (12, _), (13, _), (77, _), (78, _)] [(500003, _), (500002, _), (500015, _), (500001, _)] ?_ (hK := by simp [ntL, ntV, nt2, ntK, argL, cellsL, putL, lnRow, Item.cells, nt1_i, nt1_b, nt1_n, nt1_w, nt1_p, nt1_o, nt1_pv, nt1_p0, hep.nt, hip.nt, setK, delK, zer])
             refine JL.retagS (d := 16) (t := 500015) (u := 500005) [(15, _), (79, _), (14, _), (4, _), (12, _), (13, _), (77, _), (78, _)] [(500004, _), (500003, _), (500002, _), (500001, _)] ?_ (hK := by simp [ntL, ntV, nt2, ntK, argL, cellsL, putL, lnRow, Item.cells, nt1_i, nt1_b, nt1_n, nt1_w, nt1_p, nt1_o, nt1_pv, nt1_p0, hep.nt, hip.nt, setK, delK, zer])
             refine st (h := sdA) ?_
             refine st (h := O) ?_
             refine nl ?_
             refine bk4 (some (_, _, _)) (_) (d + 1) ((_, _, _)) (by exact ⟨rfl, rfl, rfl, trivial⟩) (by exact ⟨rfl, rfl, rfl, rfl, rfl, rfl, trivial⟩) (by exact (by repeat' first | exact trivial | refine And.intro rfl ?_)) ?_ ?_
             · omega
             · refine ⟨by omega, by rw [g1, List.length_append, ← hm]; show _ = m + 1; omega, by simp only [apB, Option.map_some, sn2, sn3]; omega, by simp only [apB, Option.map_some, sn2, sn3]; omega, by simp only [apB, Option.map_some, sn2, sn3]; omega, ?_, ?_, ?_⟩
               · rw [g1, ivs_append, ← hS1]
                 first
                   | rfl
                   | (rw [List.eq_nil_of_length_eq_zero (l := S.1) (by omega)]; rfl)
               · rw [g2, ivs_append, ← hS2]
                 first
                   | rfl
                   | (rw [List.eq_nil_of_length_eq_zero (l := S.2.1) (by omega)]; rfl)
               · rw [g3, ivs_append, ← hS3]
                 first
                   | rfl
                   | (rw [List.eq_nil_of_length_eq_zero (l := S.2.2) (by omega)]; rfl)
           ·have g1 : gluL Item.width l k (d + 1) = gluL Item.width l k d := by rw [gluL, if_neg c2, List.append_nil]
            have g2 : gluL Item.stretch l k (d + 1) = gluL Item.stretch l k d := by rw [gluL, if_neg c2, List.append_nil]
            have g3 : gluL Item.shrink l k (d + 1) = gluL Item.shrink l k d := by rw [gluL, if_neg c2, List.append_nil]
            refine sk ?_
            refine bk ?_
            refine rg ?_
            refine st (h := sdA) ?_
            refine st (h := O) ?_
            refine nl ?_
            refine bk4 (ocap) (m) (d + 1) (S) (by exact ⟨rfl, rfl, rfl, trivial⟩) (by exact ⟨rfl, rfl, rfl, rfl, rfl, rfl, trivial⟩) (by exact (by repeat' first | exact trivial | refine And.intro rfl ?_)) ?_ ?_
            · omega
            · exact ⟨by omega, by rw [g1]; exact hm, by simp only [ocap, apB, Option.map_some, Option.map_none]; omega, by simp only [ocap, apB, Option.map_some, Option.map_none]; omega, by simp only [ocap, apB, Option.map_some, Option.map_none]; omega, by rw [g1]; exact hS1, by rw [g2]; exact hS2, by rw [g3]; exact hS3⟩
          ·obtain rfl : d = b - k := by omega
           subst hfm
           have l1 : m = (glW l a1 b).length := hm
           have l2 : m = (glY l a1 b).length := l2
           have l3 : m = (glZ l a1 b).length := l3
           obtain ⟨S1, S2, S3⟩ := S
           obtain rfl : S1 = ivs (glW l a1 b) := hS1
           obtain rfl : S2 = ivs (glY l a1 b) := hS2
           obtain rfl : S3 = ivs (glZ l a1 b) := hS3
           have yb : 0 ≤ mY l a1 b ∧ mY l a1 b ≤ m * 1073741824 := by rw [l2, ← eY]; exact bY
           have zb : 0 ≤ mZ l a1 b ∧ mZ l a1 b ≤ m * 1073741824 := by rw [l3, ← eZ]; exact bZ
           have hm1 : m ≤ 1024 := by omega
           have plv : plain1 (.slice (some ⟨vb, vo + fromA l a1 b * 11, none⟩) (b - fromA l a1 b) (vc - fromA l a1 b)) = true := rfl
           have pg := hei.pl1
           refine ex ?_
           refine sq ?_
           refine rg ?_
           iterate 2 (refine st (h := O) ?_)
           refine nl ?_
           iterate 2 (refine sq ?_)
           refine rg ?_
           refine st (h := sdL) ?_
           refine st (h := O) ?_
           refine st (h := sdFA) ?_
           refine st (h := sdL) ?_
           refine st (h := O) ?_
           refine nl ?_
           refine bl ?_
           refine sq ?_
           refine rg ?_
           iterate 3 (refine st (h := O) ?_)
           refine gD (fun g116 => ?_) (fun g116 => ?_)
           ·refine sg (h := O) ?_
            refine sg (h := O) ?_
            iterate 2 (refine st (h := O) ?_)
            refine gD (fun g120 => ?_) (fun g120 => ?_)
            ·refine sg (h := O) ?_
             refine sg (h := O) ?_
             iterate 2 (refine st (h := O) ?_)
             refine nl ?_
             refine cD (fun c3 => ?_) (fun c3 => ?_)
             ·try (exfalso; omega)
              all_goals
                refine rg ?_
                iterate 3 (refine st (h := O) ?_)
                refine clA [500001, 500002, 500003, 500004] [500001, 500002, 500003, 500004] [500001, 500002, 500003, 500004] [(14, _)] [(500001, _), (500002, _), (500003, _), (500004, _)] [] (h := by exact fun ι hV hl => give_n _ (width - mW l a1 b) 1 (glW l a1 b) (glY l a1 b) (.slice (some ⟨vb, vo + fromA l a1 b * 11, none⟩) (b - fromA l a1 b) (vc - fromA l a1 b)) (at_ l b) (.slice ea (at_ l b).glyphs.length ec) (width - mW l a1 b) false ag _ _ _ _ m l1 l2 (by unfold i64ok; omega) oW hm1 (.inl rfl) plv pg) ?_
                intro v1 Y1 K1 hQ1 hp1 hN1
                obtain ⟨rfl, rfl⟩ := hQ1
                refine nl ?_
                refine bk ?_
                refine sq ?_
                refine rg ?_
                refine st (h := sdL) ?_
                refine st (h := O) ?_
                refine nl ?_
                repeat refine J.dropF ?_
                have hlv := RItems.part (n := b - fromA l a1 b) h63 hRI hfl (by omega) (vc - fromA l a1 b) rfl
                first
                  | (refine J.weak (L0 := [(10, _)]) (K0 := [(500002, _), (500003, _)]) (by exact ⟨rfl, trivial⟩) (by exact ⟨rfl, rfl, rfl, rfl, trivial⟩) ?_
                     refine rtX fun ι hV => ?_
                     first
                       | rw [glueD_1 (by omega) g120 (by omega)]
                       | rw [glueD_2 (by omega)]
                       | rw [glueD_D (by omega) (by omega)]
                     dsimp only
                     exact RLn.of (List.mem_map.2 ⟨_, List.mem_cons_self, rfl⟩) hlv heib (by first | (rw [giveD_len, ← l1]; rfl) | (rw [← l1]; rfl)) (fun G hG => hG.ixq (List.mem_map.2 ⟨_, List.mem_cons_of_mem _ List.mem_cons_self, rfl⟩) rfl (by first | (rw [giveD_len]; omega) | omega)) (by first | (rw [giveD_len, ← l1]; omega) | (rw [← l1]; omega)))
                  | (refine J.weak (L0 := [(10, _)]) (K0 := [(500002, _)]) (by exact ⟨rfl, trivial⟩) (by exact ⟨rfl, rfl, trivial⟩) ?_
                     refine rtX fun ι hV => ?_
                     have hw0 : glW l a1 b = [] := List.eq_nil_of_length_eq_zero (by omega)
                     first
                       | rw [glueD_2 (by omega), hw0, giveD_nil]
                       | rw [glueD_D (by omega) (by omega), hw0]
                     dsimp only
                     exact RLn.of (List.mem_map.2 ⟨_, List.mem_cons_self, rfl⟩) hlv heib rfl (fun _ _ => RIx.none _) (Nat.le_refl _))
             ·refine sq ?_
              refine rg ?_
              iterate 3 (refine st (h := O) ?_)
              refine nl ?_
              refine cD (fun c4 => ?_) (fun c4 => ?_)
              ·try (exfalso; omega)
               all_goals
                 refine sq ?_
                 refine rg ?_
                 refine st (h := sdL) ?_
                 refine st (h := O) ?_
                 refine st (h := sdN) ?_
                 iterate 3 (refine st (h := O) ?_)
                 refine st (h := sdFA) ?_
                 refine so ?_
                 refine nl ?_
                 refine rg ?_
                 iterate 2 (refine st (h := O) ?_)
                 refine st (h := sdN) ?_
                 iterate 3 (refine st (h := O) ?_)
                 first
                   | (refine JL.retagS (d := 143) (t := 500005) (u := 500004) [(14, _), (138, _), (142, _)] [(500001, _), (500002, _), (500003, _)] ?_ (hK := by simp [ntL, ntV, nt2, ntK, argL, cellsL, putL, lnRow, Item.cells, nt1_i, nt1_b, nt1_n, nt1_w, nt1_p, nt1_o, nt1_pv, nt1_p0, hep.nt, setK, delK, zer])
                      refine clA [500001, 500002, 500003, 500004] [500001, 500002, 500003, 500004] [500001, 500002, 500003, 500004] [(14, _)] [(500001, _), (500002, _), (500003, _), (500004, _)] [] (h := by exact fun ι hV hl => give_n _ (min (-(width - mW l a1 b)) (mZ l a1 b)) (-1) (glW l a1 b) (glZ l a1 b) (.slice (some ⟨vb, vo + fromA l a1 b * 11, none⟩) (b - fromA l a1 b) (vc - fromA l a1 b)) (at_ l b) (.slice ea (at_ l b).glyphs.length ec) (width - mW l a1 b) (decide (mZ l a1 b < -(width - mW l a1 b))) ag _ _ _ _ m l1 l3 (by unfold i64ok; omega) oW hm1 (.inr rfl) plv pg) ?_
                      intro v1 Y1 K1 hQ1 hp1 hN1
                      obtain ⟨rfl, rfl⟩ := hQ1)
                   | (refine clA [] [] [500001, 500002] [(14, _)] [] [(500001, _), (500002, _)] (hK2 := by simp [tgK, lnRow, Item.cells, cellsL, putL, tg1_i, tg1_b, tg1_n, tg1_o, tg1_w, tg1_p, hep.tg]) (h := by exact fun ι hV hl => give0_CA _ (min (-(width - mW l a1 b)) (mZ l a1 b)) (-1) _ (by unfold i64ok; omega)) ?_
                      intro v1 Y1 K1 hQ1 hp1 hN1
                      obtain ⟨rfl, rfl⟩ := hQ1)
                 refine nl ?_
                 refine bk ?_
                 refine sq ?_
                 refine rg ?_
                 refine st (h := sdL) ?_
                 refine st (h := O) ?_
                 refine nl ?_
                 repeat refine J.dropF ?_
                 have hlv := RItems.part (n := b - fromA l a1 b) h63 hRI hfl (by omega) (vc - fromA l a1 b) rfl
                 first
                   | (refine J.weak (L0 := [(10, _)]) (K0 := [(500002, _), (500003, _)]) (by exact ⟨rfl, trivial⟩) (by exact ⟨rfl, rfl, rfl, rfl, trivial⟩) ?_
                      refine rtX fun ι hV => ?_
                      first
                        | rw [glueD_1 (by omega) g120 (by omega)]
                        | rw [glueD_2 (by omega)]
                        | rw [glueD_D (by omega) (by omega)]
                      dsimp only
                      exact RLn.of (List.mem_map.2 ⟨_, List.mem_cons_self, rfl⟩) hlv heib (by first | (rw [giveD_len, ← l1]; rfl) | (rw [← l1]; rfl)) (fun G hG => hG.ixq (List.mem_map.2 ⟨_, List.mem_cons_of_mem _ List.mem_cons_self, rfl⟩) rfl (by first | (rw [giveD_len]; omega) | omega)) (by first | (rw [giveD_len, ← l1]; omega) | (rw [← l1]; omega)))
                   | (refine J.weak (L0 := [(10, _)]) (K0 := [(500002, _)]) (by exact ⟨rfl, trivial⟩) (by exact ⟨rfl, rfl, trivial⟩) ?_
                      refine rtX fun ι hV => ?_
                      have hw0 : glW l a1 b = [] := List.eq_nil_of_length_eq_zero (by omega)
                      first
                        | rw [glueD_2 (by omega), hw0, giveD_nil]
                        | rw [glueD_D (by omega) (by omega), hw0]
                      dsimp only
                      exact RLn.of (List.mem_map.2 ⟨_, List.mem_cons_self, rfl⟩) hlv heib rfl (fun _ _ => RIx.none _) (Nat.le_refl _))
              ·refine sk ?_
               refine bk ?_
               refine sq ?_
               refine rg ?_
               refine st (h := sdL) ?_
               refine st (h := O) ?_
               refine nl ?_
               repeat refine J.dropF ?_
               have hlv := RItems.part (n := b - fromA l a1 b) h63 hRI hfl (by omega) (vc - fromA l a1 b) rfl
               first
                 | (refine J.weak (L0 := [(10, _)]) (K0 := [(500002, _), (500003, _)]) (by exact ⟨rfl, trivial⟩) (by exact ⟨rfl, rfl, rfl, rfl, trivial⟩) ?_
                    refine rtX fun ι hV => ?_
                    first
                      | rw [glueD_1 (by omega) g120 (by omega)]
                      | rw [glueD_2 (by omega)]
                      | rw [glueD_D (by omega) (by omega)]
                    dsimp only
                    exact RLn.of (List.mem_map.2 ⟨_, List.mem_cons_self, rfl⟩) hlv heib (by first | (rw [giveD_len, ← l1]; rfl) | (rw [← l1]; rfl)) (fun G hG => hG.ixq (List.mem_map.2 ⟨_, List.mem_cons_of_mem _ List.mem_cons_self, rfl⟩) rfl (by first | (rw [giveD_len]; omega) | omega)) (by first | (rw [giveD_len, ← l1]; omega) | (rw [← l1]; omega)))
                 | (refine J.weak (L0 := [(10, _)]) (K0 := [(500002, _)]) (by exact ⟨rfl, trivial⟩) (by exact ⟨rfl, rfl, trivial⟩) ?_
                    refine rtX fun ι hV => ?_
                    have hw0 : glW l a1 b = [] := List.eq_nil_of_length_eq_zero (by omega)
                    first
                      | rw [glueD_2 (by omega), hw0, giveD_nil]
                      | rw [glueD_D (by omega) (by omega), hw0]
                    dsimp only
                    exact RLn.of (List.mem_map.2 ⟨_, List.mem_cons_self, rfl⟩) hlv heib rfl (fun _ _ => RIx.none _) (Nat.le_refl _))
            ·refine sp ?_
             refine sp ?_
             iterate 2 (refine st (h := O) ?_)
             refine nl ?_
             refine cF ?_
             refine sq ?_
             refine rg ?_
             iterate 3 (refine st (h := O) ?_)
             refine nl ?_
             refine cD (fun c4 => ?_) (fun c4 => ?_)
             ·try (exfalso; omega)
              all_goals
                refine sq ?_
                refine rg ?_
                refine st (h := sdL) ?_
                refine st (h := O) ?_
                refine st (h := sdN) ?_
                iterate 3 (refine st (h := O) ?_)
                refine st (h := sdFA) ?_
                refine so ?_
                refine nl ?_
                refine rg ?_
                iterate 2 (refine st (h := O) ?_)
                refine st (h := sdN) ?_
                iterate 3 (refine st (h := O) ?_)
                first
                  | (refine JL.retagS (d := 143) (t := 500005) (u := 500004) [(14, _), (138, _), (142, _)] [(500001, _), (500002, _), (500003, _)] ?_ (hK := by simp [ntL, ntV, nt2, ntK, argL, cellsL, putL, lnRow, Item.cells, nt1_i, nt1_b, nt1_n, nt1_w, nt1_p, nt1_o, nt1_pv, nt1_p0, hep.nt, setK, delK, zer])
                     refine clA [500001, 500002, 500003, 500004] [500001, 500002, 500003, 500004] [500001, 500002, 500003, 500004] [(14, _)] [(500001, _), (500002, _), (500003, _), (500004, _)] [] (h := by exact fun ι hV hl => give_n _ (min (-(width - mW l a1 b)) (mZ l a1 b)) (-1) (glW l a1 b) (glZ l a1 b) (.slice (some ⟨vb, vo + fromA l a1 b * 11, none⟩) (b - fromA l a1 b) (vc - fromA l a1 b)) (at_ l b) (.slice ea (at_ l b).glyphs.length ec) (width - mW l a1 b) (decide (mZ l a1 b < -(width - mW l a1 b))) ag _ _ _ _ m l1 l3 (by unfold i64ok; omega) oW hm1 (.inr rfl) plv pg) ?_
                     intro v1 Y1 K1 hQ1 hp1 hN1
                     obtain ⟨rfl, rfl⟩ := hQ1)
                  | (refine clA [] [] [500001, 500002] [(14, _)] [] [(500001, _), (500002, _)] (hK2 := by simp [tgK, lnRow, Item.cells, cellsL, putL, tg1_i, tg1_b, tg1_n, tg1_o, tg1_w, tg1_p, hep.tg]) (h := by exact fun ι hV hl => give0_CA _ (min (-(width - mW l a1 b)) (mZ l a1 b)) (-1) _ (by unfold i64ok; omega)) ?_
                     intro v1 Y1 K1 hQ1 hp1 hN1
                     obtain ⟨rfl, rfl⟩ := hQ1)
                refine nl ?_
                refine bk ?_
                refine sq ?_
                refine rg ?_
                refine st (h := sdL) ?_
                refine st (h := O) ?_
                refine nl ?_
                repeat refine J.dropF ?_
                have hlv := RItems.part (n := b - fromA l a1 b) h63 hRI hfl (by omega) (vc - fromA l a1 b) rfl
                first
                  | (refine J.weak (L0 := [(10, _)]) (K0 := [(500002, _), (500003, _)]) (by exact ⟨rfl, trivial⟩) (by exact ⟨rfl, rfl, rfl, rfl, trivial⟩) ?_
                     refine rtX fun ι hV => ?_
                     first
                       | rw [glueD_1 (by omega) g120 (by omega)]
                       | rw [glueD_2 (by omega)]
                       | rw [glueD_D (by omega) (by omega)]
                     dsimp only
                     exact RLn.of (List.mem_map.2 ⟨_, List.mem_cons_self, rfl⟩) hlv heib (by first | (rw [giveD_len, ← l1]; rfl) | (rw [← l1]; rfl)) (fun G hG => hG.ixq (List.mem_map.2 ⟨_, List.mem_cons_of_mem _ List.mem_cons_self, rfl⟩) rfl (by first | (rw [giveD_len]; omega) | omega)) (by first | (rw [giveD_len, ← l1]; omega) | (rw [← l1]; omega)))
                  | (refine J.weak (L0 := [(10, _)]) (K0 := [(500002, _)]) (by exact ⟨rfl, trivial⟩) (by exact ⟨rfl, rfl, trivial⟩) ?_
                     refine rtX fun ι hV => ?_
                     have hw0 : glW l a1 b = [] := List.eq_nil_of_length_eq_zero (by omega)
                     first
                       | rw [glueD_2 (by omega), hw0, giveD_nil]
                       | rw [glueD_D (by omega) (by omega), hw0]
                     dsimp only
                     exact RLn.of (List.mem_map.2 ⟨_, List.mem_cons_self, rfl⟩) hlv heib rfl (fun _ _ => RIx.none _) (Nat.le_refl _))
             ·refine sk ?_
              refine bk ?_
              refine sq ?_
              refine rg ?_
              refine st (h := sdL) ?_
              refine st (h := O) ?_
              refine nl ?_
              repeat refine J.dropF ?_
              have hlv := RItems.part (n := b - fromA l a1 b) h63 hRI hfl (by omega) (vc - fromA l a1 b) rfl
              first
                | (refine J.weak (L0 := [(10, _)]) (K0 := [(500002, _), (500003, _)]) (by exact ⟨rfl, trivial⟩) (by exact ⟨rfl, rfl, rfl, rfl, trivial⟩) ?_
                   refine rtX fun ι hV => ?_
                   first
                     | rw [glueD_1 (by omega) g120 (by omega)]
                     | rw [glueD_2 (by omega)]
                     | rw [glueD_D (by omega) (by omega)]
                   dsimp only
                   exact RLn.of (List.mem_map.2 ⟨_, List.mem_cons_self, rfl⟩) hlv heib (by first | (rw [giveD_len, ← l1]; rfl) | (rw [← l1]; rfl)) (fun G hG => hG.ixq (List.mem_map.2 ⟨_, List.mem_cons_of_mem _ List.mem_cons_self, rfl⟩) rfl (by first | (rw [giveD_len]; omega) | omega)) (by first | (rw [giveD_len, ← l1]; omega) | (rw [← l1]; omega)))
                | (refine J.weak (L0 := [(10, _)]) (K0 := [(500002, _)]) (by exact ⟨rfl, trivial⟩) (by exact ⟨rfl, rfl, trivial⟩) ?_
                   refine rtX fun ι hV => ?_
                   have hw0 : glW l a1 b = [] := List.eq_nil_of_length_eq_zero (by omega)
                   first
                     | rw [glueD_2 (by omega), hw0, giveD_nil]
                     | rw [glueD_D (by omega) (by omega), hw0]
                   dsimp only
                   exact RLn.of (List.mem_map.2 ⟨_, List.mem_cons_self, rfl⟩) hlv heib rfl (fun _ _ => RIx.none _) (Nat.le_refl _))
           ·refine sp ?_
            refine sp ?_
            iterate 2 (refine st (h := O) ?_)
            iterate 2 (refine sp ?_)
            iterate 2 (refine st (h := O) ?_)
            refine nl ?_
            refine cF ?_
            refine sq ?_
            refine rg ?_
            iterate 3 (refine st (h := O) ?_)
            refine nl ?_
            refine cD (fun c4 => ?_) (fun c4 => ?_)
            ·try (exfalso; omega)
             all_goals
               refine sq ?_
               refine rg ?_
               refine st (h := sdL) ?_
               refine st (h := O) ?_
               refine st (h := sdN) ?_
               iterate 3 (refine st (h := O) ?_)
               refine st (h := sdFA) ?_
               refine so ?_
               refine nl ?_
               refine rg ?_
               iterate 2 (refine st (h := O) ?_)
               refine st (h := sdN) ?_
               iterate 3 (refine st (h := O) ?_)
               first
                 | (refine JL.retagS (d := 143) (t := 500005) (u := 500004) [(14, _), (138, _), (142, _)] [(500001, _), (500002, _), (500003, _)] ?_ (hK := by simp [ntL, ntV, nt2, ntK, argL, cellsL, putL, lnRow, Item.cells, nt1_i, nt1_b, nt1_n, nt1_w, nt1_p, nt1_o, nt1_pv, nt1_p0, hep.nt, setK, delK, zer])
                    refine clA [500001, 500002, 500003, 500004] [500001, 500002, 500003, 500004] [500001, 500002, 500003, 500004] [(14, _)] [(500001, _), (500002, _), (500003, _), (500004, _)] [] (h := by exact fun ι hV hl => give_n _ (min (-(width - mW l a1 b)) (mZ l a1 b)) (-1) (glW l a1 b) (glZ l a1 b) (.slice (some ⟨vb, vo + fromA l a1 b * 11, none⟩) (b - fromA l a1 b) (vc - fromA l a1 b)) (at_ l b) (.slice ea (at_ l b).glyphs.length ec) (width - mW l a1 b) (decide (mZ l a1 b < -(width - mW l a1 b))) ag _ _ _ _ m l1 l3 (by unfold i64ok; omega) oW hm1 (.inr rfl) plv pg) ?_
                    intro v1 Y1 K1 hQ1 hp1 hN1
                    obtain ⟨rfl, rfl⟩ := hQ1)
                 | (refine clA [] [] [500001, 500002] [(14, _)] [] [(500001, _), (500002, _)] (hK2 := by simp [tgK, lnRow, Item.cells, cellsL, putL, tg1_i, tg1_b, tg1_n, tg1_o, tg1_w, tg1_p, hep.tg]) (h := by exact fun ι hV hl => give0_CA _ (min (-(width - mW l a1 b)) (mZ l a1 b)) (-1) _ (by unfold i64ok; omega)) ?_
                    intro v1 Y1 K1 hQ1 hp1 hN1
                    obtain ⟨rfl, rfl⟩ := hQ1)
               refine nl ?_
               refine bk ?_
               refine sq ?_
               refine rg ?_
               refine st (h := sdL) ?_
               refine st (h := O) ?_
               refine nl ?_
               repeat refine J.dropF ?_
               have hlv := RItems.part (n := b - fromA l a1 b) h63 hRI hfl (by omega) (vc - fromA l a1 b) rfl
               first
                 | (refine J.weak (L0 := [(10, _)]) (K0 := [(500002, _), (500003, _)]) (by exact ⟨rfl, trivial⟩) (by exact ⟨rfl, rfl, rfl, rfl, trivial⟩) ?_
                    refine rtX fun ι hV => ?_
                    first
                      | rw [glueD_1 (by omega) g120 (by omega)]
                      | rw [glueD_2 (by omega)]
                      | rw [glueD_D (by omega) (by omega)]
                    dsimp only
                    exact RLn.of (List.mem_map.2 ⟨_, List.mem_cons_self, rfl⟩) hlv heib (by first | (rw [giveD_len, ← l1]; rfl) | (rw [← l1]; rfl)) (fun G hG => hG.ixq (List.mem_map.2 ⟨_, List.mem_cons_of_mem _ List.mem_cons_self, rfl⟩) rfl (by first | (rw [giveD_len]; omega) | omega)) (by first | (rw [giveD_len, ← l1]; omega) | (rw [← l1]; omega)))
                 | (refine J.weak (L0 := [(10, _)]) (K0 := [(500002, _)]) (by exact ⟨rfl, trivial⟩) (by exact ⟨rfl, rfl, trivial⟩) ?_
                    refine rtX fun ι hV => ?_
                    have hw0 : glW l a1 b = [] := List.eq_nil_of_length_eq_zero (by omega)
                    first
                      | rw [glueD_2 (by omega), hw0, giveD_nil]
                      | rw [glueD_D (by omega) (by omega), hw0]
                    dsimp only
                    exact RLn.of (List.mem_map.2 ⟨_, List.mem_cons_self, rfl⟩) hlv heib rfl (fun _ _ => RIx.none _) (Nat.le_refl _))
            ·refine sk ?_
             refine bk ?_
             refine sq ?_
             refine rg ?_
             refine st (h := sdL) ?_
             refine st (h := O) ?_
             refine nl ?_
             repeat refine J.dropF ?_
             have hlv := RItems.part (n := b - fromA l a1 b) h63 hRI hfl (by omega) (vc - fromA l a1 b) rfl
             first
               | (refine J.weak (L0 := [(10, _)]) (K0 := [(500002, _), (500003, _)]) (by exact ⟨rfl, trivial⟩) (by exact ⟨rfl, rfl, rfl, rfl, trivial⟩) ?_
                  refine rtX fun ι hV => ?_
                  first
                    | rw [glueD_1 (by omega) g120 (by omega)]
                    | rw [glueD_2 (by omega)]
                    | rw [glueD_D (by omega) (by omega)]
                  dsimp only
                  exact RLn.of (List.mem_map.2 ⟨_, List.mem_cons_self, rfl⟩) hlv heib (by first | (rw [giveD_len, ← l1]; rfl) | (rw [← l1]; rfl)) (fun G hG => hG.ixq (List.mem_map.2 ⟨_, List.mem_cons_of_mem _ List.mem_cons_self, rfl⟩) rfl (by first | (rw [giveD_len]; omega) | omega)) (by first | (rw [giveD_len, ← l1]; omega) | (rw [← l1]; omega)))
               | (refine J.weak (L0 := [(10, _)]) (K0 := [(500002, _)]) (by exact ⟨rfl, trivial⟩) (by exact ⟨rfl, rfl, trivial⟩) ?_
                  refine rtX fun ι hV => ?_
                  have hw0 : glW l a1 b = [] := List.eq_nil_of_length_eq_zero (by omega)
                  first
                    | rw [glueD_2 (by omega), hw0, giveD_nil]
                    | rw [glueD_D (by omega) (by omega), hw0]
                  dsimp only
                  exact RLn.of (List.mem_map.2 ⟨_, List.mem_cons_self, rfl⟩) hlv heib rfl (fun _ _ => RIx.none _) (Nat.le_refl _))
  · exact absurd hg (by decide)
end Go.Proofs.Ytnkddjdmpnghmaa.Am
namespace Go.Proofs.Ytnkddjdmpnghmaa.Am
set_option linter.unusedSimpArgs false
set_option linter.unusedVariables false
open Go Go.RowKit
theorem unflat_St {F : Mem} {ι : Nat → Nat} {K : Own} {w : World} {t : Nat} {r : Row} (h : St F ι ((t, r) :: K) w) : St F ι ((t, { r with flat := false }) :: K) w := by
  refine ⟨h.below, h.nodup, fun x hx => ?_, h.ext⟩
  rcases List.mem_cons.1 hx with rfl | hx
  · obtain ⟨h1, h2, h3⟩ := h.own (t, r) List.mem_cons_self
    exact ⟨h1, h2, fun e => by cases e⟩
  · exact h.own x (List.mem_cons_of_mem _ hx)
section
variable {X : Cx} {F : Mem} {L : Slots} {K : Own} {s : List SI} {ops : Array Oper} {lo : List Oper}
theorem JL.flatU {u : Nat} {r : Row} (Kk : Own) (h : JL X ops lo s F L ((u, { r with flat := true }) :: Kk)) (hKk : KSub ((u, r) :: Kk) K := by repeat' first | exact trivial | refine And.intro rfl ?_) (hp : ∀ v ∈ r.cs, plain1 v = true) : JL X ops lo s F L K :=
  fun ι a w hF hS => h ι a w hF ((hS.weak hKk).flat hp)
theorem JL.unflat {t : Nat} {r : Row} (Kk : Own) (h : JL X ops lo s F L ((t, { r with flat := false }) :: Kk)) (hKk : KSub ((t, r) :: Kk) K := by repeat' first | exact trivial | refine And.intro rfl ?_) : JL X ops lo s F L K :=
  fun ι a w hF hS => h ι a w hF (unflat_St (hS.weak hKk))
theorem J.unflat {c : Code} {t : Nat} {r : Row} (Kk : Own) (h : J X (.code c :: s) F L ((t, { r with flat := false }) :: Kk)) (hKk : KSub ((t, r) :: Kk) K := by repeat' first | exact trivial | refine And.intro rfl ?_) : J X (.code c :: s) F L K :=
  fun ι a w hF hS => h ι a w hF (unflat_St (hS.weak hKk))
theorem J.flat {c : Code} {u : Nat} {r : Row} (Kk : Own) (h : J X (.code c :: s) F L ((u, { r with flat := true }) :: Kk)) (hKk : KSub ((u, r) :: Kk) K := by repeat' first | exact trivial | refine And.intro rfl ?_) (hp : ∀ v ∈ r.cs, plain1 v = true) : J X (.code c :: s) F L K :=
  fun ι a w hF hS => h ι a w hF ((hS.weak hKk).flat hp)
theorem setK_head (t : Nat) (r r' : Row) (K : Own) : setK t r' ((t, r) :: K) = (t, r') :: K := by simp [setK]
theorem rel_St {F : Mem} {ι : Nat → Nat} {K : Own} {w : World} {A t n c p : Nat} {rA r : Row} {pre post : List Value} (h : St F ι ((t, r) :: (A, rA) :: K) w) (hp : ∀ v ∈ r.cs, plain1 v = true) (hcs : rA.cs = pre ++ .slice (some ⟨t, p, some 0⟩) n c :: post) :
    St (F.add [(ι t, r)]) ι ((A, { rA with cs := pre ++ .slice (some ⟨ι t, p, none⟩) n c :: post, flat := false }) :: K) w := by
  have h1 := h.release hp
  have hh := (h1.own (A, rA) List.mem_cons_self).2.1
  have hc : ({ rA with cs := pre ++ .slice (some ⟨ι t, p, none⟩) n c :: post, flat := false } : Row).c ι = { rA.c ι with flat := false } := by
    simp only [Row.c, hcs, List.map_append, List.map_cons]
    rfl
  have := h1.set (r' := { rA with cs := pre ++ .slice (some ⟨ι t, p, none⟩) n c :: post, flat := false }) (by rw [List.lookup_cons_self]) (fun _ _ => rfl) rfl rfl rfl rfl (by rw [hc]; exact hh) (fun e => by cases e)
  rwa [setK_head] at this
/-- a row that a cell of another row shows is handed to the world -/
theorem J.releaseC {cc : Code} {A t n c p : Nat} {rA r : Row} (pre post : List Value) (Lk : Slots) (Kk : Own)
    (h : ∀ b, PlainRows [(b, r)] → New F [(b, r)] → J X (.code cc :: s) (F.add [(b, r)]) Lk ((A, { rA with cs := pre ++ .slice (some ⟨b, p, none⟩) n c :: post, flat := false }) :: Kk))
    (hLk : LSub Lk L := by repeat' first | exact trivial | refine And.intro rfl ?_) (hKk : KSub ((t, r) :: (A, rA) :: Kk) K := by repeat' first | exact trivial | refine And.intro rfl ?_)
    (hcs : rA.cs = pre ++ .slice (some ⟨t, p, some 0⟩) n c :: post) (hp : ∀ v ∈ r.cs, plain1 v = true) : J X (.code cc :: s) F L K := by
  intro ι a w hF hS
  have hS2 := rel_St (hS.weak hKk) hp hcs
  have hpr : PlainRows [(ι t, r)] := fun x hx => by rw [List.mem_singleton.1 hx]; exact hp
  exact h (ι t) hpr (hS2.new_ hpr) ι a w (hF.weak hLk) hS2
theorem JL.releaseC {A t n c p : Nat} {rA r : Row} (pre post : List Value) (Lk : Slots) (Kk : Own)
    (h : ∀ b, PlainRows [(b, r)] → New F [(b, r)] → JL X ops lo s (F.add [(b, r)]) Lk ((A, { rA with cs := pre ++ .slice (some ⟨b, p, none⟩) n c :: post, flat := false }) :: Kk))
    (hLk : LSub Lk L := by repeat' first | exact trivial | refine And.intro rfl ?_) (hKk : KSub ((t, r) :: (A, rA) :: Kk) K := by repeat' first | exact trivial | refine And.intro rfl ?_)
    (hcs : rA.cs = pre ++ .slice (some ⟨t, p, some 0⟩) n c :: post) (hp : ∀ v ∈ r.cs, plain1 v = true) : JL X ops lo s F L K := by
  intro ι a w hF hS
  have hS2 := rel_St (hS.weak hKk) hp hcs
  have hpr : PlainRows [(ι t, r)] := fun x hx => by rw [List.mem_singleton.1 hx]; exact hp
  exact h (ι t) hpr (hS2.new_ hpr) ι a w (hF.weak hLk) hS2
theorem J.trc {cc : Code} {ι0 ι1 : Nat → Nat} (h : ∀ t ∈ X.D, ι1 t = ι0 t) {a : Act} {w : World} (hl : cc.wp X.P (Lft X.N X.D ι1 (sem X s)) a w) : cc.wp X.P (Lft X.N X.D ι0 (sem X s)) a w := wp_mono hl fun e a w hq => Lft.tr h hq
/-- a row that a cell of another row shows gets another tag -/
theorem J.retagC {cc : Code} {A t u off n c : Nat} {rA r : Row} (Lk : Slots) (Kk : Own) (h : J X (.code cc :: s) F Lk (setK A { rA with cs := rA.cs.set off (.slice (some ⟨u, 0, some 0⟩) n c) } ((u, r) :: (A, rA) :: Kk)))
    (hA : K.lookup A = some rA := by rfl) (hr : K.lookup t = some r := by rfl) (hcell : rA.cs[off]? = some (.slice (some ⟨t, 0, some 0⟩) n c) := by rfl) (hfA : rA.flat = false := by rfl) (hAu : (A == u) = false := by rfl)
    (hLk : LSub Lk L := by repeat' first | exact trivial | refine And.intro rfl ?_) (hKk : KSub ((t, r) :: (A, rA) :: Kk) K := by repeat' first | exact trivial | refine And.intro rfl ?_) (hL : ntL u Lk = true := by rfl) (hK : ntK u ((A, rA) :: Kk) = true := by rfl) (hru : (r.flat || r.cs.all (nt1 u)) = true := by rfl) (hD : X.D.contains u = false := by rfl) : J X (.code cc :: s) F L K := by
  intro ι a w hF hS
  have hS1 := hS.weak hKk
  have hagree : ∀ v ∈ X.D, upd ι u (ι t) v = ι v := fun v hv => upd_ne ι (fun e => by subst e; simp at hD; exact hD hv)
  have hS2 := hS1.retag hK hru
  have hlk : ((u, r) :: (A, rA) :: Kk).lookup A = some rA := by
    rw [List.lookup_cons, hAu, List.lookup_cons_self]
  have htt : upd ι u (ι t) t = ι t := by
    by_cases e : t = u
    · subst e; exact upd_eq ..
    · exact upd_ne ι e
  have hc : ({ rA with cs := rA.cs.set off (.slice (some ⟨u, 0, some 0⟩) n c) } : Row).c (upd ι u (ι t)) = rA.c (upd ι u (ι t)) := by
    simp only [Row.c]
    congr 1
    rw [List.map_set]
    apply List.ext_getElem?
    intro j
    rw [List.getElem?_set]
    split
    · rename_i e
      subst e
      have hlt := (List.getElem?_eq_some_iff.1 hcell).1
      rw [List.length_map, if_pos hlt, List.getElem?_map, hcell]
      show some (c1 _ (.slice (some ⟨u, 0, some 0⟩) n c)) = some (c1 _ (.slice (some ⟨t, 0, some 0⟩) n c))
      show some (Value.slice (some ⟨upd ι u (ι t) u, 0, none⟩) n c) = some (Value.slice (some ⟨upd ι u (ι t) t, 0, none⟩) n c)
      rw [htt, upd_eq]
    · rfl
  have hh := (hS2.own (A, rA) (by simp)).2.1
  refine J.trc hagree (h (upd ι u (ι t)) a w ?_ (hS2.set hlk (fun _ _ => rfl) rfl rfl rfl rfl (by rw [hc]; exact hh) (fun hf => by rw [show ({ rA with cs := rA.cs.set off (.slice (some ⟨u, 0, some 0⟩) n c) } : Row).flat = rA.flat from rfl, hfA] at hf; cases hf)))
  exact (hF.weak hLk).nt (κ := upd ι u (ι t)) (t := u) (fun v hv => upd_ne ι hv) hL
/-- the end of a region that draws: what is told may be told anew there -/
theorem dnl {l : List Oper} {b : Nat} {F0 : Mem} {K0 : Own} {D : List Nat} {listed : Array Bool} (h : JL X #[] [] s F L K) : JD X l b F0 K0 D [] listed s F L K := by
  intro hp hok ι0 ι a w hF hS hag _
  obtain ⟨ι1, F1, L1, K1, h1, h2, h3, h4⟩ := h ι a w hF hS
  refine ⟨by simpa [planOk] using hp, ι1, F1, L1, K1, h1, h2, fun t ht => (h3 t ht).trans (hag t ?_), h4⟩
  simpa using List.all_eq_true.1 hok.sub t ht
end
end Go.Proofs.Ytnkddjdmpnghmaa.Am
namespace Go.Proofs.Ytnkddjdmpnghmaa.Am
set_option linter.unusedSimpArgs false
set_option linter.unusedVariables false
open Go Go.RowKit
theorem map_r1_pl (ι : Nat → Nat) {cs : List Value} (h : ∀ v ∈ cs, plain1 v = true) : cs.map (r1 ι) = cs := by
  conv => rhs; rw [← List.map_id cs]
  exact List.map_congr_left fun u hu => r1_plain ι (h u hu)
/-- elements of sz cells each, each told by T, in the cells of a row -/
structure LR {α : Type} (sz : Nat) (T : Mem → α → List Value → Prop) (Y : List (Nat × Row)) (xs : List α) (cs : List Value) : Prop where
  len : cs.length = xs.length * sz
  pl : ∀ v ∈ cs, plain1 v = true
  el : ∀ i x, xs[i]? = some x → ∃ c, c.length = sz ∧ (∀ G, Rd G Y → T G x c) ∧ ∀ j v, c[j]? = some v → cs[i * sz + j]? = some v
/-- .. that are read -/
def RL {α : Type} (sz : Nat) (T : Mem → α → List Value → Prop) (F : Mem) (v : Value) (xs : List α) : Prop :=
  (∃ b off c, v = .slice (some ⟨b, off, Option.none⟩) xs.length c ∧ xs.length ≤ c ∧ c ≤ 9223372036854775807 ∧ ∀ i x, xs[i]? = some x → ∃ cs, lookN F ⟨b, off + i * sz, Option.none⟩ sz = some cs ∧ T F x cs) ∨ (v = .slice Option.none 0 0 ∧ xs = [])
section
variable {α : Type} {sz : Nat} {T : Mem → α → List Value → Prop}
theorem LR.nil (Y : List (Nat × Row)) : LR sz T Y ([] : List α) [] := ⟨by simp, (fun v hv => by cases hv), (fun i x hx => by simp at hx)⟩
theorem LR.more {Y Z : List (Nat × Row)} {xs : List α} {cs : List Value} (h : LR sz T Y xs cs) : LR sz T (Z ++ Y) xs cs :=
  ⟨h.len, h.pl, fun i x hx => by
    obtain ⟨c, h1, h2, h3⟩ := h.el i x hx
    exact ⟨c, h1, fun G hG => h2 G hG.app_right, h3⟩⟩
theorem LR.snoc {Y Z : List (Nat × Row)} {xs : List α} {cs c : List Value} {x : α} (h : LR sz T Y xs cs) (hc : c.length = sz) (hp : ∀ v ∈ c, plain1 v = true) (hT : ∀ G, Rd G (Z ++ Y) → T G x c) : LR sz T (Z ++ Y) (xs ++ [x]) (cs ++ c) := by
  refine ⟨by rw [List.length_append, List.length_append, h.len, hc, List.length_singleton, Nat.add_mul, Nat.one_mul], fun v hv => (List.mem_append.1 hv).elim (h.pl v) (hp v), fun i y hy => ?_⟩
  rcases Nat.lt_or_ge i xs.length with hi | hi
  · rw [List.getElem?_append_left hi] at hy
    obtain ⟨c', h1, h2, h3⟩ := h.el i y hy
    refine ⟨c', h1, fun G hG => h2 G hG.app_right, fun j v hv => ?_⟩
    have hj : j < sz := by rw [← h1]; exact (List.getElem?_eq_some_iff.1 hv).1
    have hlt : i * sz + j < cs.length := by
      rw [h.len]
      calc i * sz + j < i * sz + sz := by omega
        _ = (i + 1) * sz := by rw [Nat.add_mul, Nat.one_mul]
        _ ≤ xs.length * sz := Nat.mul_le_mul_right _ hi
    rw [List.getElem?_append_left hlt]
    exact h3 j v hv
  · have hl := (List.getElem?_eq_some_iff.1 hy).1
    rw [List.length_append, List.length_singleton] at hl
    obtain rfl : i = xs.length := by omega
    rw [List.getElem?_append_right (by omega), Nat.sub_self] at hy
    simp only [List.getElem?_cons_zero, Option.some.injEq] at hy
    subst hy
    refine ⟨c, hc, hT, fun j v hv => ?_⟩
    rw [List.getElem?_append_right (by rw [h.len]; omega), h.len, Nat.add_sub_cancel_left]
    exact hv
theorem LR.read {Y : List (Nat × Row)} {xs : List α} {cs : List Value} (h : LR sz T Y xs cs) {G : Mem} {b n c : Nat} {r : Row} (hm : (b, r) ∈ Y) (hcs : r.cs = cs) (hG : Rd G Y) (hn : n = xs.length) (hc : n ≤ c) (h63 : c ≤ 9223372036854775807) : RL sz T G (.slice (some ⟨b, 0, Option.none⟩) n c) xs := by
  subst hn hcs
  refine .inl ⟨b, 0, c, rfl, hc, h63, fun i x hx => ?_⟩
  obtain ⟨c', h1, h2, h3⟩ := h.el i x hx
  refine ⟨c', ?_, h2 G hG⟩
  have := lookN_of (F := G) (a := ⟨b, 0 + i * sz, Option.none⟩) (cs := c') (fun j v hv => by
    refine hG (b, r) hm (0 + i * sz + j) v ?_
    rw [Nat.zero_add]
    exact h3 j v hv)
  rwa [h1] at this
theorem RL.nil (F : Mem) : RL sz T F (.slice Option.none 0 0) ([] : List α) := .inr ⟨rfl, rfl⟩
/-- the end of a list that was built by append, at its last row -/
theorem LR.readO {Y : List (Nat × Row)} {xs : List α} {cs : List Value} (h : LR sz T Y xs cs) {G : Mem} {b n c : Nat} {ι : Nat → Nat} {r : Row} {Z : List (Nat × Row)} (hcs : r.cs = cs) (hG : Rd G (Z ++ (b, r.r ι) :: Y)) (hn : n = xs.length) (hc : n ≤ c) (h63 : c ≤ 9223372036854775807) : RL sz T G (.slice (some ⟨b, 0, Option.none⟩) n c) xs := by
  refine LR.read (Y := (b, r.r ι) :: Y) (by have := LR.more (Z := [(b, r.r ι)]) h; exact this) List.mem_cons_self ?_ hG.app_right hn hc h63
  rw [Row.r, hcs, map_r1_pl ι h.pl]
theorem look_le_N {F F' : Mem} (hl : F.le F') : ∀ n a cs, lookN F a n = some cs → lookN F' a n = some cs := by
  intro n
  induction n with
  | zero => intro a cs h; exact h
  | succ n ih =>
    intro a cs h
    simp only [lookN] at h ⊢
    split at h <;> try (simp at h; done)
    rename_i v hv
    split at h <;> try (simp at h; done)
    rename_i cs' hcs
    rw [hl _ _ hv, ih _ _ hcs]; exact h
theorem RL.le {F F' : Mem} {v : Value} {xs : List α} (h : RL sz T F v xs) (hl : F.le F') (hT : ∀ x cs, T F x cs → T F' x cs) : RL sz T F' v xs := by
  rcases h with ⟨b, off, c, h1, h2, h3, h4⟩ | h
  · refine .inl ⟨b, off, c, h1, h2, h3, fun i x hx => ?_⟩
    obtain ⟨cs, g1, g2⟩ := h4 i x hx
    exact ⟨cs, look_le_N hl _ _ _ g1, hT _ _ g2⟩
  · exact .inr h
theorem RL.pl1 {F : Mem} {v : Value} {xs : List α} (h : RL sz T F v xs) : plain1 v = true := by
  rcases h with ⟨b, o, c, rfl, _⟩ | ⟨rfl, _⟩ <;> rfl
/-- its slice, opaque -/
theorem RL.opq {F : Mem} {v : Value} {xs : List α} (h : RL sz T F v xs) : ∃ a c, PlA a ∧ v = .slice a xs.length c ∧ xs.length ≤ c ∧ c ≤ 9223372036854775807 ∧ (0 < xs.length → ∃ b off, a = some ⟨b, off, Option.none⟩ ∧ ∀ i x, xs[i]? = some x → ∃ cs, lookN F ⟨b, off + i * sz, Option.none⟩ sz = some cs ∧ T F x cs) := by
  rcases h with ⟨b, o, c, rfl, h1, h2, h3⟩ | ⟨rfl, rfl⟩
  · exact ⟨_, c, .inr (.inl ⟨b, o, rfl⟩), rfl, h1, h2, fun _ => ⟨b, o, rfl, h3⟩⟩
  · exact ⟨Option.none, 0, .inl rfl, rfl, Nat.le_refl _, by decide, fun h => by simp at h⟩
end
end Go.Proofs.Ytnkddjdmpnghmaa.Am
namespace Go.Proofs.Ytnkddjdmpnghmaa.Am
set_option linter.unusedSimpArgs false
set_option linter.unusedVariables false
set_option maxRecDepth 100000
set_option maxHeartbeats 4000000
open Go Go.RowKit
structure Pc where
  x : Int
  width : Int
  font : Int
  size : Int
  link : Int
  run : Int
  glyphs : List Int
def Pc.cells (p : Pc) (g : Value) : List Value := [.int .i64 p.x, .int .i64 p.width, .int .i64 p.font, .int .i64 p.size, .int .i64 p.link, .int .i64 p.run, g]
structure Ln where
  width : Int
  over : Bool
  pieces : List Pc
def pcOf (i : Item) (x run : Int) : Pc := ⟨x, i.width, i.font, i.size, i.link, run, i.glyphs⟩
def TPc (F : Mem) (p : Pc) (cs : List Value) : Prop := ∃ g, cs = p.cells g ∧ RInts F g p.glyphs
theorem TPc.le {F F' : Mem} (hl : F.le F') (p : Pc) (cs : List Value) : TPc F p cs → TPc F' p cs := fun ⟨g, h1, h2⟩ => ⟨g, h1, h2.le hl⟩
def Ln.cells (x : Ln) (p : Value) : List Value := [.int .i64 x.width, .bool x.over, p]
def TLn (F : Mem) (x : Ln) (cs : List Value) : Prop := ∃ p, cs = x.cells p ∧ RL 7 TPc F p x.pieces
theorem TLn.le {F F' : Mem} (hl : F.le F') (x : Ln) (cs : List Value) : TLn F x cs → TLn F' x cs := fun ⟨g, h1, h2⟩ => ⟨g, h1, h2.le hl (TPc.le hl)⟩
def beginD (fr al : Int) : Int := if fr ≤ 0 then 0 else if al = 2 then fr else if al = 3 then fr / 2 else 0
theorem atL_CA (F : Mem) (pb : Nat) : CA Try.prog [] [] 62 [.pointer (some ⟨pb, 0, none⟩)] F [] (fun v Y K' => v = .int .i64 0 ∧ Y = [] ∧ K' = []) := by
  refine CA.go hT Try.func62 Try.ntmps62 ?_
  refine sq ?_
  refine rg ?_
  refine st (h := O) ?_
  refine nl ?_
  refine sq ?_
  refine rg ?_
  refine st (h := O) ?_
  refine nl ?_
  exact rtA [] ⟨rfl, rfl, rfl⟩
theorem atR_CA (F : Mem) (pb : Nat) (fr : Int) (h13 : look F ⟨pb, 0 + 13, none⟩ = some (.int .i64 fr)) : CA Try.prog [] [] 63 [.pointer (some ⟨pb, 0, none⟩)] F [] (fun v Y K' => v = .int .i64 fr ∧ Y = [] ∧ K' = []) := by
  refine CA.go hT Try.func63 Try.ntmps63 ?_
  refine sq ?_
  refine rg ?_
  refine st (h := O) ?_
  refine nl ?_
  refine sq ?_
  refine rg ?_
  iterate 2 (refine st (h := O) ?_)
  refine st (h := sdFA) ?_
  refine st (h := sdL) ?_
  refine st (h := O) ?_
  refine nl ?_
  exact rtA [] ⟨rfl, rfl, rfl⟩
theorem inM_CA (F : Mem) (pb : Nat) (fr : Int) (h0 : 0 < fr) (h1 : fr ≤ 9223372036854775807) (h13 : look F ⟨pb, 0 + 13, none⟩ = some (.int .i64 fr)) : CA Try.prog [] [] 64 [.pointer (some ⟨pb, 0, none⟩)] F [] (fun v Y K' => v = .int .i64 (fr / 2) ∧ Y = [] ∧ K' = []) := by
  refine CA.go hT Try.func64 Try.ntmps64 ?_
  refine sq ?_
  refine rg ?_
  refine st (h := O) ?_
  refine nl ?_
  refine sq ?_
  refine rg ?_
  iterate 2 (refine st (h := O) ?_)
  refine st (h := sdFA) ?_
  refine st (h := sdL) ?_
  refine st (h := sdQ) ?_
  refine st (h := O) ?_
  refine nl ?_
  exact rtA [] ⟨rfl, rfl, rfl⟩
theorem begin_C (F : Mem) (pb : Nat) (fr al : Int) (h1 : fr ≤ 9223372036854775807) (h13 : look F ⟨pb, 0 + 13, none⟩ = some (.int .i64 fr)) (h15 : look F ⟨pb, 0 + 15, none⟩ = some (.int .i64 al)) : C0 Try.prog 50 [.pointer (some ⟨pb, 0, none⟩)] F (.int .i64 (beginD fr al)) := by
  refine C.go hT Try.func50 Try.ntmps50 ?_
  refine sq ?_
  refine rg ?_
  refine st (h := O) ?_
  refine nl ?_
  refine sq ?_
  refine rg ?_
  iterate 3 (refine st (h := O) ?_)
  refine nl ?_
  refine sq ?_
  refine bl ?_
  refine sq ?_
  refine rg ?_
  iterate 2 (refine st (h := O) ?_)
  refine st (h := sdFA) ?_
  refine st (h := sdL) ?_
  iterate 2 (refine st (h := O) ?_)
  refine nl ?_
  refine cD (fun c0 => ?_) (fun c0 => ?_)
  ·refine sk ?_
   refine bk ?_
   refine sq ?_
   refine rg ?_
   refine st (h := O) ?_
   first
     | (refine clA [] [] [] [] [] [] (h := by exact fun ι hV hl => atL_CA _ pb) ?_
        intro v Y K' hQ hp hN
        obtain ⟨rfl, rfl, rfl⟩ := hQ)
     | (refine clA [] [] [] [] [] [] (h := by exact fun ι hV hl => atR_CA _ pb fr (hl _ _ h13)) ?_
        intro v Y K' hQ hp hN
        obtain ⟨rfl, rfl, rfl⟩ := hQ)
     | (refine clA [] [] [] [] [] [] (h := by exact fun ι hV hl => inM_CA _ pb fr (by omega) h1 (hl _ _ h13)) ?_
        intro v Y K' hQ hp hN
        obtain ⟨rfl, rfl, rfl⟩ := hQ)
   refine st (h := O) ?_
   refine nl ?_
   refine rt ⟨?_, rfl⟩
   unfold beginD
   first
     | rw [if_pos c0]
     | rw [if_neg c0, if_pos c1]
     | rw [if_neg c0, if_neg c1, if_pos c2]
     | rw [if_neg c0, if_neg c1, if_neg c2]
  ·refine sq ?_
   refine rg ?_
   iterate 2 (refine st (h := O) ?_)
   refine st (h := sdFA) ?_
   refine st (h := sdL) ?_
   iterate 2 (refine st (h := O) ?_)
   refine nl ?_
   refine cD (fun c1 => ?_) (fun c1 => ?_)
   ·refine rg ?_
    iterate 3 (refine st (h := O) ?_)
    refine nl ?_
    refine bk ?_
    refine sq ?_
    refine rg ?_
    refine st (h := O) ?_
    first
      | (refine clA [] [] [] [] [] [] (h := by exact fun ι hV hl => atL_CA _ pb) ?_
         intro v Y K' hQ hp hN
         obtain ⟨rfl, rfl, rfl⟩ := hQ)
      | (refine clA [] [] [] [] [] [] (h := by exact fun ι hV hl => atR_CA _ pb fr (hl _ _ h13)) ?_
         intro v Y K' hQ hp hN
         obtain ⟨rfl, rfl, rfl⟩ := hQ)
      | (refine clA [] [] [] [] [] [] (h := by exact fun ι hV hl => inM_CA _ pb fr (by omega) h1 (hl _ _ h13)) ?_
         intro v Y K' hQ hp hN
         obtain ⟨rfl, rfl, rfl⟩ := hQ)
    refine st (h := O) ?_
    refine nl ?_
    refine rt ⟨?_, rfl⟩
    unfold beginD
    first
      | rw [if_pos c0]
      | rw [if_neg c0, if_pos c1]
      | rw [if_neg c0, if_neg c1, if_pos c2]
      | rw [if_neg c0, if_neg c1, if_neg c2]
   ·refine sq ?_
    refine rg ?_
    iterate 2 (refine st (h := O) ?_)
    refine st (h := sdFA) ?_
    refine st (h := sdL) ?_
    iterate 2 (refine st (h := O) ?_)
    refine nl ?_
    refine cD (fun c2 => ?_) (fun c2 => ?_)
    ·refine rg ?_
     iterate 3 (refine st (h := O) ?_)
     refine nl ?_
     refine bk ?_
     refine sq ?_
     refine rg ?_
     refine st (h := O) ?_
     first
       | (refine clA [] [] [] [] [] [] (h := by exact fun ι hV hl => atL_CA _ pb) ?_
          intro v Y K' hQ hp hN
          obtain ⟨rfl, rfl, rfl⟩ := hQ)
       | (refine clA [] [] [] [] [] [] (h := by exact fun ι hV hl => atR_CA _ pb fr (hl _ _ h13)) ?_
          intro v Y K' hQ hp hN
          obtain ⟨rfl, rfl, rfl⟩ := hQ)
       | (refine clA [] [] [] [] [] [] (h := by exact fun ι hV hl => inM_CA _ pb fr (by omega) h1 (hl _ _ h13)) ?_
          intro v Y K' hQ hp hN
          obtain ⟨rfl, rfl, rfl⟩ := hQ)
     refine st (h := O) ?_
     refine nl ?_
     refine rt ⟨?_, rfl⟩
     unfold beginD
     first
       | rw [if_pos c0]
       | rw [if_neg c0, if_pos c1]
       | rw [if_neg c0, if_neg c1, if_pos c2]
       | rw [if_neg c0, if_neg c1, if_neg c2]
    ·refine sk ?_
     refine bk ?_
     refine sq ?_
     refine rg ?_
     refine st (h := O) ?_
     first
       | (refine clA [] [] [] [] [] [] (h := by exact fun ι hV hl => atL_CA _ pb) ?_
          intro v Y K' hQ hp hN
          obtain ⟨rfl, rfl, rfl⟩ := hQ)
       | (refine clA [] [] [] [] [] [] (h := by exact fun ι hV hl => atR_CA _ pb fr (hl _ _ h13)) ?_
          intro v Y K' hQ hp hN
          obtain ⟨rfl, rfl, rfl⟩ := hQ)
       | (refine clA [] [] [] [] [] [] (h := by exact fun ι hV hl => inM_CA _ pb fr (by omega) h1 (hl _ _ h13)) ?_
          intro v Y K' hQ hp hN
          obtain ⟨rfl, rfl, rfl⟩ := hQ)
     refine st (h := O) ?_
     refine nl ?_
     refine rt ⟨?_, rfl⟩
     unfold beginD
     first
       | rw [if_pos c0]
       | rw [if_neg c0, if_pos c1]
       | rw [if_neg c0, if_neg c1, if_pos c2]
       | rw [if_neg c0, if_neg c1, if_neg c2]
/-- the box of a line that is made, and its row of pieces -/
def lnB (ty : TypeId) (wd : Int) (ov : Bool) (pv : Value) : Row := { elem := ty, cs := [.int .i64 wd, .bool ov, pv], room := 3, fz := false, flat := false }
def xB (ty : TypeId) (x : Int) : Row := { elem := ty, cs := [.int .i64 x], room := 1, fz := false, flat := false }
/-- what showing leaves -/
def ShowQ (tl ti tp : TypeId) (x : Item) (run X wd : Int) (ov : Bool) (o : Option Nat) (m : Nat) (cs : List Value) (v : Value) (Y : List (Nat × Row)) (K' : Own) : Prop :=
  v = .tuple #[] ∧ ∃ (o' : Option Nat) (m' : Nat) (cs' : List Value), K' = (500001, lnB tl wd ov (apV 500003 o' m')) :: (500002, xB ti X) :: apR 500003 tp 7 true o' cs' ∧ apB o' m' ∧ (x.glyphs.length = 0 → o' = o ∧ m' = m ∧ cs' = cs) ∧
    (0 < x.glyphs.length → (∃ c, o' = some c) ∧ m' = m + 1 ∧ ∃ g', plain1 g' = true ∧ (∀ G, Rd G Y → RInts G g' x.glyphs) ∧ cs' = cs ++ (pcOf x X run).cells g')
theorem Pc.pl_cells (p : Pc) {g : Value} (h : plain1 g = true) : ∀ u ∈ p.cells g, plain1 u = true := by
  intro u hu
  simp only [Pc.cells, List.mem_cons, List.not_mem_nil, or_false] at hu
  rcases hu with rfl | rfl | rfl | rfl | rfl | rfl | rfl <;> first | rfl | exact h
theorem show0_CA (F : Mem) (x : Item) (g : Value) (run X wd : Int) (ov : Bool) (hg : RGl F g x.glyphs) (hb : x.glyphs.length * 8 ≤ 140737488355328) :
    CA Try.prog [500001, 500002] [500001, 500002, 500003] 51 [.agg ⟨x.cells g⟩, .int .i64 run, .pointer (some ⟨500001, 0, some 0⟩), .pointer (some ⟨500002, 0, some 0⟩)] F
      [(500001, lnB 47 wd ov (.slice none 0 0)), (500002, xB 3 X)] (ShowQ 47 3 51 x run X wd ov none 0 []) := by
  obtain ⟨ga, gc, rfl, hga⟩ := hg.ixq
  have hep := hga.pl
  have hone : ∀ v ∈ ivs x.glyphs, v.oneCell' = true := ivs_one _
  have hpla : (ivs x.glyphs).all plain1 = true := List.all_eq_true.2 fun v hv => by obtain ⟨y, _, rfl⟩ := List.mem_map.1 hv; rfl
  have hntt : ∀ t, (ivs x.glyphs).all (nt1 t) = true := fun t => List.all_eq_true.2 fun v hv => by obtain ⟨y, _, rfl⟩ := List.mem_map.1 hv; rfl
  have hpl1 : plain1 (.slice ga x.glyphs.length gc) = true := hg.pl1
  refine CA.go hT Try.func51 Try.ntmps51 ?_
  refine sq ?_
  refine rg ?_
  refine bx (hL := by simp [ntL, ntV, nt2, ntK, argL, cellsL, putL, Item.cells, nt1_i, nt1_b, nt1_n, nt1_w, nt1_p, nt1_o, nt1_pv, nt1_p0, hep.nt]) ?_
  refine nl ?_
  refine sq ?_
  refine rg ?_
  refine JL.flat (by exact Item.pl_cells _ hpl1) ?_
  refine st (h := sdFA) ?_
  refine st (h := sdL) ?_
  iterate 2 (refine st (h := O) ?_)
  refine nl ?_
  refine cD (fun c0 => ?_) (fun c0 => ?_)
  ·have hgp : 0 < x.glyphs.length := by omega
   refine drK (tgk := by simp [tgK, lnB, xB, Item.cells, cellsL, putL, tg1_i, tg1_b, tg1_n, tg1_o, tg1_w, tg1_p, hep.tg]) 19 [4, 500001, 500002] [(4, _), (500001, _), (500002, _)] [0, 1, 2, 3, 4, 5, 6, 7, 8, 9, 10, 11, 12, 13, 1014, 15, 1016, 1017, 18, 1019] ?_
   refine dt (hv := by exact sdFA) ?_
   iterate 2 (refine dt (hv := by exact sdL) ?_)
   refine dt (hv := by exact sdFA) ?_
   refine dt (hv := by exact sdL) ?_
   refine dt (hv := by exact sdFA) ?_
   refine dt (hv := by exact sdL) ?_
   refine dt (hv := by exact sdFA) ?_
   refine dt (hv := by exact sdL) ?_
   refine dt (hv := by exact sdFA) ?_
   refine dt (hv := by exact sdL) ?_
   refine dt (hv := by exact O) ?_
   refine dt (hv := by exact sdFA) ?_
   refine dt (hv := by exact sdL) ?_
   refine dapN (m := x.glyphs.length) (news := ivs x.glyphs) 24 true ?_ (happ := hga.app gc) (hnn := hntt _) (hflat := fun _ => hpla) (hL := by simp [ntL, ntV, nt2, ntK, argL, cellsL, putL, lnB, xB, Item.cells, nt1_i, nt1_b, nt1_n, nt1_w, nt1_p, nt1_o, nt1_pv, nt1_p0, hep.nt, setK, delK]) (hK := by simp [ntL, ntV, nt2, ntK, argL, cellsL, putL, lnB, xB, Item.cells, nt1_i, nt1_b, nt1_n, nt1_w, nt1_p, nt1_o, nt1_pv, nt1_p0, hep.nt, setK, delK])
   intro cap24 hc24 hd24
   refine dt (hv := by exact O) ?_
   refine dsl (hL := by first | rfl | simp [ntL, ntV, nt2, ntK, argL, cellsL, putL, lnB, xB, Item.cells, nt1_i, nt1_b, nt1_n, nt1_w, nt1_p, nt1_o, nt1_pv, nt1_p0, hep.nt, setK, delK]) (hK := by first | rfl | simp [zer, List.replicate, ntL, ntV, nt2, ntK, argL, cellsL, putL, lnB, xB, Item.cells, nt1_i, nt1_b, nt1_n, nt1_w, nt1_p, nt1_o, nt1_pv, nt1_p0, hep.nt, setK, delK]) ?_
   first | refine dapN (news := [_, _, _, _, _, _, _]) 500003 false (hflat := by intro h; first | rfl | cases h) (hL := by first | rfl | simp [ntL, ntV, nt2, ntK, argL, cellsL, putL, lnB, xB, Item.cells, nt1_i, nt1_b, nt1_n, nt1_w, nt1_p, nt1_o, nt1_pv, nt1_p0, hep.nt, setK, delK]) (hK := by first | rfl | simp [zer, List.replicate, ntL, ntV, nt2, ntK, argL, cellsL, putL, lnB, xB, Item.cells, nt1_i, nt1_b, nt1_n, nt1_w, nt1_p, nt1_o, nt1_pv, nt1_p0, hep.nt, setK, delK]) ?_ | refine dapO (news := [_, _, _, _, _, _, _]) 500003 (hflat := by intro h; first | rfl | cases h) (hL := by first | rfl | simp [ntL, ntV, nt2, ntK, argL, cellsL, putL, lnB, xB, Item.cells, nt1_i, nt1_b, nt1_n, nt1_w, nt1_p, nt1_o, nt1_pv, nt1_p0, hep.nt, setK, delK]) (hK := by first | rfl | simp [zer, List.replicate, ntL, ntV, nt2, ntK, argL, cellsL, putL, lnB, xB, Item.cells, nt1_i, nt1_b, nt1_n, nt1_w, nt1_p, nt1_o, nt1_pv, nt1_p0, hep.nt, setK, delK]) ?_
   intro cap27 hc27 hd27
   refine dt (hv := by exact sdFA) ?_
   refine dso (hkp := by first | exact Kept.all | exact Kept.k0 | exact Kept.kY | exact Kept.kYY | exact Kept.kY3) ?_
   refine dnl ?_
   refine JL.releaseC (A := 500003) (t := 24) [.int .i64 X, .int .i64 x.width, .int .i64 x.font, .int .i64 x.size, .int .i64 x.link, .int .i64 run] [] [] [(500001, _), (500002, _)] ?_ (hcs := by exact rfl) (hp := by exact ivs_pl _)
   intro g2 hpl hNw
   refine JL.flatU (u := 500003) [(500001, _), (500002, _)] ?_ (hp := by exact Pc.pl_cells (pcOf x X run) (g := .slice (some ⟨g2, 0, none⟩) x.glyphs.length cap24) rfl)
   refine nl ?_
   exact reAY [(500001, _), (500002, _), (500003, _)] hpl ⟨rfl, some _, 1, _, rfl, ⟨hc27, hd27⟩, fun h => absurd h (by omega), fun _ => ⟨⟨_, rfl⟩, rfl, .slice (some ⟨g2, 0, none⟩) x.glyphs.length cap24, rfl, fun G hG => Rd.ivsW hG List.mem_cons_self rfl rfl (by omega), rfl⟩⟩
  ·refine sk ?_
   have hz : x.glyphs.length = 0 := by omega
   exact reA [(500001, _), (500002, _)] ⟨rfl, none, 0, [], rfl, rfl, fun _ => ⟨rfl, rfl, rfl⟩, fun h => absurd h (by omega)⟩
theorem show1_CA (F : Mem) (x : Item) (g : Value) (run X wd : Int) (ov : Bool) (hg : RGl F g x.glyphs) (hb : x.glyphs.length * 8 ≤ 140737488355328) (cq m : Nat) (cs : List Value) (hcs : ∀ v ∈ cs, plain1 v = true) (hcl : cs.length = m * 7) (hmc : m ≤ cq) (hc63 : cq ≤ 9223372036854775807) (hm : m ≤ 2000) :
    CA Try.prog [500001, 500002] [500001, 500002, 500003] 51 [.agg ⟨x.cells g⟩, .int .i64 run, .pointer (some ⟨500001, 0, some 0⟩), .pointer (some ⟨500002, 0, some 0⟩)] F
      [(500001, lnB 47 wd ov (.slice (some ⟨500003, 0, some 0⟩) m cq)), (500002, xB 3 X), (500003, { elem := 51, cs := cs, room := cq * 7, fz := false, flat := true })] (ShowQ 47 3 51 x run X wd ov (some cq) m cs) := by
  obtain ⟨ga, gc, rfl, hga⟩ := hg.ixq
  have hep := hga.pl
  have hone : ∀ v ∈ ivs x.glyphs, v.oneCell' = true := ivs_one _
  have hpla : (ivs x.glyphs).all plain1 = true := List.all_eq_true.2 fun v hv => by obtain ⟨y, _, rfl⟩ := List.mem_map.1 hv; rfl
  have hntt : ∀ t, (ivs x.glyphs).all (nt1 t) = true := fun t => List.all_eq_true.2 fun v hv => by obtain ⟨y, _, rfl⟩ := List.mem_map.1 hv; rfl
  have hpl1 : plain1 (.slice ga x.glyphs.length gc) = true := hg.pl1
  have hcn : ∀ t, (cs.all (nt1 t)) = true := fun t => List.all_eq_true.2 fun v hv => nt1_plain t (hcs v hv)
  have hct : ∀ D, (cs.all (tg1 D)) = true := fun D => List.all_eq_true.2 fun v hv => tg1_pl D (hcs v hv)
  refine CA.go hT Try.func51 Try.ntmps51 ?_
  refine sq ?_
  refine rg ?_
  refine bx (hL := by simp [ntL, ntV, nt2, ntK, argL, cellsL, putL, Item.cells, nt1_i, nt1_b, nt1_n, nt1_w, nt1_p, nt1_o, nt1_pv, nt1_p0, hep.nt]) ?_
  refine nl ?_
  refine sq ?_
  refine rg ?_
  refine JL.flat (by exact Item.pl_cells _ hpl1) ?_
  refine st (h := sdFA) ?_
  refine st (h := sdL) ?_
  iterate 2 (refine st (h := O) ?_)
  refine nl ?_
  refine cD (fun c0 => ?_) (fun c0 => ?_)
  ·have hgp : 0 < x.glyphs.length := by omega
   refine J.unflat (t := 500003) [(4, _), (500001, _), (500002, _)] ?_
   refine drK (tgk := by simp [tgK, lnB, xB, Item.cells, cellsL, putL, tg1_i, tg1_b, tg1_n, tg1_o, tg1_w, tg1_p, hep.tg]) 19 [4, 500001, 500002, 500003] [(4, _), (500001, _), (500002, _)] [0, 1, 2, 3, 4, 5, 6, 7, 8, 9, 10, 11, 12, 13, 1014, 15, 1016, 1017, 18, 1019] ?_
   refine dt (hv := by exact sdFA) ?_
   iterate 2 (refine dt (hv := by exact sdL) ?_)
   refine dt (hv := by exact sdFA) ?_
   refine dt (hv := by exact sdL) ?_
   refine dt (hv := by exact sdFA) ?_
   refine dt (hv := by exact sdL) ?_
   refine dt (hv := by exact sdFA) ?_
   refine dt (hv := by exact sdL) ?_
   refine dt (hv := by exact sdFA) ?_
   refine dt (hv := by exact sdL) ?_
   refine dt (hv := by exact O) ?_
   refine dt (hv := by exact sdFA) ?_
   refine dt (hv := by exact sdL) ?_
   refine dapN (m := x.glyphs.length) (news := ivs x.glyphs) 24 true ?_ (happ := hga.app gc) (hnn := hntt _) (hflat := fun _ => hpla) (hL := by simp [ntL, ntV, nt2, ntK, argL, cellsL, putL, lnB, xB, Item.cells, nt1_i, nt1_b, nt1_n, nt1_w, nt1_p, nt1_o, nt1_pv, nt1_p0, hep.nt, setK, delK]) (hK := by simp [ntL, ntV, nt2, ntK, argL, cellsL, putL, lnB, xB, Item.cells, nt1_i, nt1_b, nt1_n, nt1_w, nt1_p, nt1_o, nt1_pv, nt1_p0, hep.nt, setK, delK, hcn])
   intro cap24 hc24 hd24
   refine dt (hv := by exact O) ?_
   refine dsl (hL := by first | rfl | simp [ntL, ntV, nt2, ntK, argL, cellsL, putL, lnB, xB, Item.cells, nt1_i, nt1_b, nt1_n, nt1_w, nt1_p, nt1_o, nt1_pv, nt1_p0, hep.nt, setK, delK]) (hK := by first | rfl | simp [zer, List.replicate, ntL, ntV, nt2, ntK, argL, cellsL, putL, lnB, xB, Item.cells, nt1_i, nt1_b, nt1_n, nt1_w, nt1_p, nt1_o, nt1_pv, nt1_p0, hep.nt, setK, delK, hcn]) ?_
   first | refine dapN (news := [_, _, _, _, _, _, _]) 500013 true (hflat := by intro h; first | rfl | cases h) (hL := by first | rfl | simp [ntL, ntV, nt2, ntK, argL, cellsL, putL, lnB, xB, Item.cells, nt1_i, nt1_b, nt1_n, nt1_w, nt1_p, nt1_o, nt1_pv, nt1_p0, hep.nt, setK, delK]) (hK := by first | rfl | simp [zer, List.replicate, ntL, ntV, nt2, ntK, argL, cellsL, putL, lnB, xB, Item.cells, nt1_i, nt1_b, nt1_n, nt1_w, nt1_p, nt1_o, nt1_pv, nt1_p0, hep.nt, setK, delK, hcn]) ?_ | refine dapO (news := [_, _, _, _, _, _, _]) 500013 (hflat := by intro h; first | rfl | cases h) (hL := by first | rfl | simp [ntL, ntV, nt2, ntK, argL, cellsL, putL, lnB, xB, Item.cells, nt1_i, nt1_b, nt1_n, nt1_w, nt1_p, nt1_o, nt1_pv, nt1_p0, hep.nt, setK, delK]) (hK := by first | rfl | simp [zer, List.replicate, ntL, ntV, nt2, ntK, argL, cellsL, putL, lnB, xB, Item.cells, nt1_i, nt1_b, nt1_n, nt1_w, nt1_p, nt1_o, nt1_pv, nt1_p0, hep.nt, setK, delK, hcn]) ?_
   intro cap27 hc27 hd27
   refine dt (hv := by exact sdFA) ?_
   refine dso (hkp := by first | exact Kept.all | exact Kept.k0 | exact Kept.kY | exact Kept.kYY | exact Kept.kY3) ?_
   refine dnl ?_
   refine JL.releaseC (A := 500013) (t := 24) (cs ++ [.int .i64 X, .int .i64 x.width, .int .i64 x.font, .int .i64 x.size, .int .i64 x.link, .int .i64 run]) [] [] [(500001, _), (500002, _)] ?_ (hcs := by rw [List.append_assoc]; rfl) (hp := by exact ivs_pl _)
   intro g2 hpl hNw
   refine JL.flatU (u := 500013) [(500001, _), (500002, _)] ?_ (hp := fun v hv => ?_)
   rotate_left
   · dsimp only at hv
     rw [List.append_assoc] at hv
     exact (List.mem_append.1 hv).elim (hcs v) (Pc.pl_cells (pcOf x X run) (g := .slice (some ⟨g2, 0, none⟩) x.glyphs.length cap24) rfl v)
   refine JL.retagC (A := 500001) (t := 500013) (u := 500003) (off := 2) [] [(500002, _)] ?_
   refine nl ?_
   exact reAY [(500001, _), (500002, _), (500003, _)] hpl ⟨rfl, some _, m + 1, (cs ++ [.int .i64 X, .int .i64 x.width, .int .i64 x.font, .int .i64 x.size, .int .i64 x.link, .int .i64 run]) ++ [.slice (some ⟨g2, 0, none⟩) x.glyphs.length cap24], rfl, ⟨hc27, hd27⟩, fun h => absurd h (by omega), fun _ => ⟨⟨_, rfl⟩, rfl, .slice (some ⟨g2, 0, none⟩) x.glyphs.length cap24, rfl, fun G hG => Rd.ivsW hG List.mem_cons_self rfl rfl (by omega), by rw [List.append_assoc]; rfl⟩⟩
  ·refine sk ?_
   have hz : x.glyphs.length = 0 := by omega
   exact reA [(500001, _), (500002, _), (500003, _)] ⟨rfl, some cq, m, cs, rfl, ⟨hmc, hc63⟩, fun _ => ⟨rfl, rfl, rfl⟩, fun h => absurd h (by omega)⟩
end Go.Proofs.Ytnkddjdmpnghmaa.Am
namespace Go.Proofs.Ytnkddjdmpnghmaa.Am
set_option linter.unusedSimpArgs false
set_option linter.unusedVariables false
set_option maxRecDepth 100000
set_option maxHeartbeats 4000000
open Go Go.RowKit
structure SetS where
  x : Int
  k : Nat
  run : Int
  ps : List Pc
def stepS (gs : List Int) (s : SetS) (i : Item) : SetS :=
  if i.kind = 1 then ⟨s.x + i.width, s.k, if 0 < i.glyphs.length then i.run else s.run, if 0 < i.glyphs.length then s.ps ++ [pcOf i s.x i.run] else s.ps⟩
  else if i.kind = 2 then ⟨s.x + ints gs s.k, s.k + 1, s.run, s.ps⟩ else s
def walkS (gs : List Int) (l : List Item) (x0 : Int) : Nat → SetS
  | 0 => ⟨x0, 0, 0, []⟩
  | i + 1 => stepS gs (walkS gs l x0 i) (at_ l i)
def lineS (gs : List Int) (l : List Item) (e : Item) (x0 : Int) (over : Bool) : Ln :=
  let s := walkS gs l x0 l.length
  if e.kind = 3 then ⟨s.x + e.width, over, if 0 < e.glyphs.length then s.ps ++ [pcOf e s.x s.run] else s.ps⟩ else ⟨s.x, over, s.ps⟩
theorem walkS_k (gs : List Int) (l : List Item) (x0 : Int) : ∀ i, (walkS gs l x0 i).k = (gluL Item.width l 0 i).length
  | 0 => rfl
  | i + 1 => by
    have := walkS_k gs l x0 i
    rw [walkS, gluL, List.length_append, ← this, stepS, Nat.zero_add]
    by_cases h1 : (at_ l i).kind = 1
    · rw [if_pos h1]; simp [h1]
    · rw [if_neg h1]
      split <;> rfl
theorem gluL_mono {f : Item → Int} {l : List Item} {a i : Nat} : ∀ {j}, i ≤ j → (gluL f l a i).length ≤ (gluL f l a j).length
  | 0, h => by rw [Nat.le_zero.1 h]; exact Nat.le_refl _
  | j + 1, h => by
    rcases Nat.lt_or_ge i (j + 1) with h' | h'
    · have := gluL_mono (f := f) (l := l) (a := a) (i := i) (j := j) (by omega)
      rw [gluL, List.length_append]; omega
    · obtain rfl : i = j + 1 := by omega
      exact Nat.le_refl _
theorem walkS_k_lt {gs : List Int} {l : List Item} {x0 : Int} (hc : (gluL Item.width l 0 l.length).length = gs.length) {i : Nat} (hi : i < l.length) (hk : (at_ l i).kind = 2) : (walkS gs l x0 i).k < gs.length := by
  have h1 := gluL_mono (f := Item.width) (l := l) (a := 0) (i := i + 1) (j := l.length) (by omega)
  rw [gluL, List.length_append, Nat.zero_add, if_pos hk, List.length_singleton] at h1
  rw [walkS_k]; omega
theorem walkS_bd {gs : List Int} {l : List Item} {x0 : Int} (hg : ∀ x ∈ gs, -4398046511104 ≤ x ∧ x ≤ 4398046511104) (hok : ∀ i, i < l.length → (at_ l i).ok = true) (h0 : -4398046511104 ≤ x0 ∧ x0 ≤ 4398046511104) : ∀ i, i ≤ l.length → -4398046511104 * ((i : Int) + 1) ≤ (walkS gs l x0 i).x ∧ (walkS gs l x0 i).x ≤ 4398046511104 * ((i : Int) + 1)
  | 0, _ => by simp only [walkS]; omega
  | i + 1, hi => by
    have h1 := walkS_bd hg hok h0 i (by omega)
    have h2 := hok i (by omega)
    simp only [Item.ok, decide_eq_true_eq] at h2
    have h3 : -4398046511104 ≤ ints gs (walkS gs l x0 i).k ∧ ints gs (walkS gs l x0 i).k ≤ 4398046511104 := by
      rcases Nat.lt_or_ge (walkS gs l x0 i).k gs.length with h | h
      · exact hg _ (List.mem_of_getElem? (ints_get h))
      · have : ints gs (walkS gs l x0 i).k = 0 := by simp [ints, List.getD_eq_getElem?_getD, List.getElem?_eq_none h]
        omega
    rw [walkS, stepS]
    split
    · dsimp only; omega
    · split
      · dsimp only; omega
      · omega
/-- where the glue that is left lies -/
structure SV where
  a : Option Addr
  c : Nat
  n : Nat
  m : Nat
  x : Int
  run : Int
theorem tail_RIx {F : Mem} {gb go c : Nat} {gs : List Int} {k : Nat} (h : RIx F (some ⟨gb, go, none⟩) (gs.drop k)) (hr : ∀ (i : Nat) (x : Int), (gs.drop k)[i]? = some x → look F ⟨gb, go + i, none⟩ = some (.int .i64 x)) (hc : gs.length - k ≤ c) : RIx F (some (if c = 1 then ⟨gb, go, none⟩ else addA ⟨gb, go, none⟩ (1 * 1))) (gs.drop (k + 1)) := by
  refine ⟨.inr (.inl ?_), by have := h.h63; rw [List.length_drop] at this ⊢; omega, fun hp => ?_⟩
  · split
    · exact ⟨_, _, rfl⟩
    · exact ⟨_, _, rfl⟩
  · rw [List.length_drop] at hp
    rw [if_neg (by omega)]
    refine ⟨_, _, rfl, fun i x hx => ?_⟩
    have := hr (1 + i) x (by rw [List.getElem?_drop] at hx ⊢; rw [← hx]; congr 1; omega)
    show look F ⟨gb, go + 1 * 1 + i, none⟩ = _
    rw [← this]
    congr 2
    omega
theorem tg1_pv (D : List Nat) (b o : Nat) : tg1 D (.pointer (some ⟨b, o, none⟩)) = true := rfl
theorem r0x_pl (T : List Nat) (ι : Nat → Nat) {v : Value} (h : plain0 v = true) : r0x T ι v = v := by
  cases v with
  | pointer a => cases a with
    | none => rfl
    | some a => obtain ⟨b, o, s⟩ := a; rcases s with _ | _ | s <;> first | rfl | cases h
  | slice a n c => cases a with
    | none => rfl
    | some a => obtain ⟨b, o, s⟩ := a; rcases s with _ | _ | s <;> first | rfl | cases h
  | _ => rfl
theorem itemArg (T : List Nat) (ι : Nat → Nat) (x : Item) {a : Option Addr} (h : PlA a) (n c : Nat) : rVx T ι (.agg ⟨x.cells (.slice a n c)⟩) = .agg ⟨x.cells (.slice a n c)⟩ := by
  have e : r1x T ι (.slice a n c) = .slice a n c := r0x_pl T ι (h.pl n c)
  show Value.agg ⟨(x.cells (.slice a n c)).map (r1x T ι)⟩ = _
  simp only [Item.cells, List.map_cons, List.map_nil, e]
  rfl
theorem CA.ofR {P : Program} {T0 T : List Nat} {f : FuncId} {vs us : List Value} {F : Mem} {K : Own} {Q : Value → List (Nat × Row) → Own → Prop} (h : CA P T0 T f us F K Q) (e : vs = us) : CA P T0 T f vs F K Q := e ▸ h
theorem argC' {f : Value → Value} {a a' : Value} {l l' : List Value} (h1 : f a = a') (h2 : l.map f = l') : (a :: l).map f = a' :: l' := by rw [List.map_cons, h1, h2]
theorem sdCut1 {F : Mem} {K : Own} {L : Slots} {t el : TypeId} {x y : Operand} {a : Addr} {n c : Nat} {k : IntKind} {ti tj : Ty} (hx : evO L x = some (.slice (some a) n c) := by rfl) (hy : evO L y = some (.int k (1 : Int)) := by rfl) (ht : Θ.lookup t = some ti := by rfl) (hk : ti.k = .slice el := by rfl) (hj : Θ.lookup el = some tj := by rfl) (h0 : 1 ≤ n := by omega) (h1 : n ≤ c := by omega) :
    SD Try.prog F K L (.slice t x (some y) none none) (.slice (some (if c = 1 then a else addA a (1 * tj.size))) (n - 1) (c - 1)) :=
  SD.cutS (P := Try.prog) (F := F) (K := K) (L := L) hT ht hk hj hx (lo := some y) (hi := none) (l := 1) (h := n) ⟨k, hy⟩ rfl h0 h1
theorem set_C (F : Mem) (pb : Nat) (lv : Value) (li : List Item) (e : Item) (g : Value) (ga : Option Addr) (gc : Nat) (gs : List Int) (fr : Int) (ov : Bool) (ag : Int) (hlv : RItems F lv li) (heg : RGl F g e.glyphs)
    (h16 : lookN F ⟨pb, 0, none⟩ 16 = some (lv :: (e.cells g ++ [.slice ga gs.length gc, .int .i64 fr, .bool ov, .int .i64 ag]))) (hix : RIx F ga gs) (hgc : gs.length ≤ gc) (hcnt : (gluL Item.width li 0 li.length).length = gs.length) (hok : ∀ i, i < li.length → (at_ li i).ok = true) (heok : e.ok = true)
    (hgb : ∀ x ∈ gs, -4398046511104 ≤ x ∧ x ≤ 4398046511104) (hn : li.length ≤ 1024) (hfr : fr ≤ 4398046511104) (hgl : ∀ x ∈ li, x.glyphs.length * 8 ≤ 140737488355328) (hegl : e.glyphs.length * 8 ≤ 140737488355328) :
    C Try.prog 30 [.pointer (some ⟨pb, 0, none⟩)] F (fun u Y => ∃ pv, u = .agg ⟨(lineS gs li e (beginD fr ag) ov).cells pv⟩ ∧ plain1 pv = true ∧ ∀ G, Rd G Y → RL 7 TPc G pv (lineS gs li e (beginD fr ag) ov).pieces) := by
  have q13 : look F ⟨pb, 0 + 13, none⟩ = some (.int .i64 fr) := lookN_at h16 13 rfl
  have q15 : look F ⟨pb, 0 + 15, none⟩ = some (.int .i64 ag) := lookN_at h16 15 rfl
  have q12 : look F ⟨pb, 0 + 12, none⟩ = some (.slice ga gs.length gc) := lookN_at h16 12 rfl
  have q0 : look F ⟨pb, 0, none⟩ = some lv := lookN_at h16 0 rfl
  have q0' : look F ⟨pb, 0 + 0, none⟩ = some lv := q0
  have hx0 : -4398046511104 ≤ beginD fr ag ∧ beginD fr ag ≤ 4398046511104 := by
    unfold beginD
    split
    · omega
    · split
      · omega
      · split <;> omega
  have hlvo : ∃ va vc, PlA va ∧ lv = .slice va li.length vc ∧ (0 < li.length → ∃ vb vo, va = some ⟨vb, vo, none⟩ ∧ ∀ i, i < li.length → ∃ g, lookN F ⟨vb, vo + i * 11, none⟩ 11 = some ((at_ li i).cells g) ∧ RGl F g (at_ li i).glyphs) := by
    rcases hlv with ⟨b, o, c, rfl, _, h⟩ | ⟨rfl, rfl⟩
    · exact ⟨_, c, .inr (.inl ⟨b, o, rfl⟩), rfl, fun _ => ⟨b, o, rfl, fun i hi => h i _ (at_get hi)⟩⟩
    · exact ⟨none, 0, .inl rfl, rfl, fun h => by simp at h⟩
  obtain ⟨va, vc, hva, rfl, hvr⟩ := hlvo
  obtain ⟨ea, ec, rfl, hea⟩ := heg.ixq
  have hep := hea.pl
  have hf9 : nt1 9 (.func (.func 51) #[] #[.pointer (some ⟨500001, 0, some 0⟩), .pointer (some ⟨500002, 0, some 0⟩)]) = true := rfl
  have hft : tg1 [500001, 500002, 2, 9] (.func (.func 51) #[] #[.pointer (some ⟨500001, 0, some 0⟩), .pointer (some ⟨500002, 0, some 0⟩)]) = true := rfl
  refine C.go hT Try.func30 Try.ntmps30 ?_
  refine sq ?_
  refine rg ?_
  refine al ?_
  refine nl ?_
  refine sq ?_
  refine rg ?_
  refine st (h := O) ?_
  refine cl (h := by exact fun ι hV hl => begin_C _ pb fr ag (by omega) (hl _ _ q13) (hl _ _ q15)) ?_
  refine al ?_
  refine so ?_
  refine nl ?_
  refine sq ?_
  refine rg ?_
  refine al ?_
  refine nl ?_
  refine sq ?_
  refine rg ?_
  iterate 2 (refine st (h := O) ?_)
  refine st (h := sdFA) ?_
  refine st (h := sdL) ?_
  iterate 2 (refine st (h := O) ?_)
  refine nl ?_
  refine sq ?_
  refine rg ?_
  refine JL.retagP (d := 3) (t := 3) (u := 500002) (off := 0) [(0, _), (2, _), (4, _), (5, _), (6, _)] [(2, _), (4, _)] ?_ (hL := by simp [ntL, ntV, nt2, nt1_i, nt1_p, nt1_pv, nt1_p0, hix.pl.nt]) 
  refine JL.retagP (d := 4) (t := 4) (u := 500001) (off := 0) [(3, _), (0, _), (2, _), (5, _), (6, _)] [(500002, _), (2, _)] ?_ (hL := by simp [ntL, ntV, nt2, nt1_i, nt1_p, nt1_pv, nt1_p0, hix.pl.nt])
  iterate 2 (refine st (h := O) ?_)
  refine nl ?_
  iterate 2 (refine sq ?_)
  refine rg ?_
  iterate 2 (refine st (h := O) ?_)
  refine st (h := sdFA) ?_
  refine st (h := sdL) ?_
  iterate 2 (refine st (h := O) ?_)
  refine nl ?_
  refine bl ?_
  refine J.gloop4 (α := Option Nat) (β := Nat) (γ := List Value) (δ := SV) (fun Y o i cs S => i ≤ li.length ∧ S.m = (walkS gs li (beginD fr ag) i).ps.length ∧ apB o S.m ∧ LR 7 TPc Y (walkS gs li (beginD fr ag) i).ps cs ∧ RIx F S.a (gs.drop (walkS gs li (beginD fr ag) i).k) ∧ S.n = gs.length - (walkS gs li (beginD fr ag) i).k ∧ S.n ≤ S.c ∧ S.x = (walkS gs li (beginD fr ag) i).x ∧ S.run = (walkS gs li (beginD fr ag) i).run ∧ S.m ≤ i) (fun o i cs S => [(5, .slice S.a S.n S.c), (6, .int .i64 S.run), (22, .int .i64 i)]) [(0, _), (2, _), (3, _), (4, _), (7, _), (20, _), (21, _)] (fun o i cs S => apR 500003 51 7 true o cs ++ [(500001, lnB 47 0 false (apV 500003 o S.m)), (500002, xB 3 S.x)]) [(2, _)] (fun o i cs S => li.length - i) (none) (0) ([]) (⟨ga, gc, gs.length, 0, beginD fr ag, 0⟩) (by exact ⟨rfl, rfl, rfl, trivial⟩) (by exact ⟨rfl, rfl, rfl, rfl, rfl, rfl, rfl, trivial⟩) (by exact (by repeat' first | exact trivial | refine And.intro rfl ?_)) ?_ ?_
  · exact ⟨Nat.zero_le _, rfl, rfl, LR.nil _, hix, rfl, hgc, rfl, rfl, Nat.le_refl _⟩
  ·intro Y o i cs S L1 K1 e1 e2 hI hY hN
   rcases o with _ | cap_o
   all_goals
    dsimp only [apV, apR, List.cons_append, List.nil_append] at e1 e2
    subst e1 e2
    obtain ⟨Sa, Sc, Sn, Sm, Sx, Sr⟩ := S
    obtain ⟨hi, hSm, hap, hLR, hRx, hSn, hSc, hSx, hSr, hmi⟩ := hI
    have hxb := walkS_bd hgb hok hx0 i hi
    simp only [apB] at hap
    dsimp only at hap hSm hRx hSn hSc hSx hSr hmi
    generalize hs : walkS gs li (beginD fr ag) i = s at hSm hLR hRx hSn hSx hSr hxb
    refine sq ?_
    refine rg ?_
    refine st (h := O) ?_
    refine nl ?_
    refine sq ?_
    refine cD (fun c0 => ?_) (fun c0 => ?_)
    ·have hil : i < li.length := by omega
     obtain ⟨vb, vo, rfl, hvq⟩ := hvr (by omega)
     obtain ⟨g9, hg2, hri⟩ := hvq i hil
     have hg2 := look_leN hN.le hg2
     have hri := hri.le hN.le
     obtain ⟨ga9, gc9, rfl, hga9⟩ := hri.ixq
     have hip := hga9.pl
     have hki := hok i hil
     have hgi := hgl _ (List.mem_of_getElem? (at_get hil))
     simp only [Item.ok, decide_eq_true_eq] at hki
     have hst : walkS gs li (beginD fr ag) (i + 1) = stepS gs s (at_ li i) := by rw [walkS, hs]
     have hk2l := fun h => walkS_k_lt (x0 := beginD fr ag) hcnt hil h
     rw [hs] at hk2l
     generalize hx : at_ li i = x at hg2 hri hga9 hki hgi hst hk2l
     refine sk ?_
     refine sq ?_
     refine bl ?_
     refine sq ?_
     refine rg ?_
     refine st (h := (sdX (z := 11))) ?_
     refine st (h := sdLN (hv := by exact hg2)) ?_
     refine al (hL := by simp [ntL, ntV, nt2, ntK, argL, cellsL, putL, lnB, xB, Item.cells, apV, apR, nt1_i, nt1_b, nt1_n, nt1_w, nt1_p, nt1_o, nt1_pv, nt1_p0, hf9, hip.nt, hRx.pl.nt]) (hK := by simp [ntK, cellsL, putL, lnB, xB, Item.cells, apV, apR, nt1_i, nt1_b, nt1_n, nt1_w, nt1_p, nt1_o, nt1_pv, nt1_p0, hip.nt]) ?_
     refine so ?_
     refine nl ?_
     refine sq ?_
     refine rg ?_
     refine JL.flat (by exact Item.pl_cells _ (hip.pl _ _)) ?_
     refine st (h := sdFA) ?_
     refine st (h := sdL) ?_
     refine nl ?_
     refine bl ?_
     refine sq ?_
     refine rg ?_
     iterate 2 (refine st (h := O) ?_)
     refine nl ?_
     refine cD (fun c1 => ?_) (fun c1 => ?_)
     ·rcases Nat.eq_zero_or_pos x.glyphs.length with hgz | hgp
      ·
       refine sq ?_
       refine rg ?_
       refine st (h := O) ?_
       refine st (h := sdLN) ?_
       refine st (h := sdFA) ?_
       refine st (h := sdL) ?_
       first
         | refine clA [500001, 500002] [500001, 500002, 500003] [500001, 500002, 2, 9] [(0, _), (2, _), (3, _), (4, _), (5, _), (6, _), (7, _), (9, _), (20, _), (21, _), (22, _)] [(500001, _), (500002, _), (500003, _)] [(2, _), (9, _)] (hL := by simp [tgV, tg2, tg1_i, tg1_b, tg1_n, tg1_o, tg1_w, tg1_p, tg1_pv, hft, hRx.pl.tg, hva.tg]) (h := by exact fun ι hV hl => (show1_CA _ x (.slice ga9 x.glyphs.length gc9) x.run Sx 0 false (hri.le hl) hgi cap_o Sm cs hLR.pl (by rw [hLR.len, ← hSm]) hap.1 hap.2 (by omega)).ofR (argC' (itemArg _ _ _ hip _ _) rfl)) ?_
         | refine clA [500001, 500002] [500001, 500002, 500003] [500001, 500002, 2, 9] [(0, _), (2, _), (3, _), (4, _), (5, _), (6, _), (7, _), (9, _), (20, _), (21, _), (22, _)] [(500001, _), (500002, _)] [(2, _), (9, _)] (hL := by simp [tgV, tg2, tg1_i, tg1_b, tg1_n, tg1_o, tg1_w, tg1_p, tg1_pv, hft, hRx.pl.tg, hva.tg]) (h := by exact fun ι hV hl => (show0_CA _ x (.slice ga9 x.glyphs.length gc9) x.run Sx 0 false (hri.le hl) hgi).ofR (argC' (itemArg _ _ _ hip _ _) rfl)) ?_
       intro v1 Y1 K1 hQ1 hp1 hN1
       obtain ⟨rfl, o1, m1, cs1, rfl, hap1, hz1, hq1⟩ := hQ1
       first
         | (specialize hz1 hgz
            obtain ⟨rfl, hm1, hcs1⟩ := hz1
            replace hm1 : m1 = Sm := by omega
            replace hcs1 : cs1 = cs := by first | exact hcs1 | (rw [hcs1]; exact (List.eq_nil_of_length_eq_zero (by rw [hLR.len, ← hSm]; omega)).symm))
         | (specialize hq1 hgp
            obtain ⟨⟨capn, rfl⟩, hm1, g1, hpg1, hRg1, hcs1⟩ := hq1
            replace hm1 : m1 = Sm + 1 := by omega
            first
              | replace hcs1 : cs1 = cs ++ (pcOf x Sx x.run).cells g1 := by first | exact hcs1 | (rw [hcs1, List.eq_nil_of_length_eq_zero (l := cs) (by rw [hLR.len, ← hSm]; omega)])
              | replace hcs1 : cs1 = cs ++ (pcOf e Sx Sr).cells g1 := by first | exact hcs1 | (rw [hcs1, List.eq_nil_of_length_eq_zero (l := cs) (by rw [hLR.len, ← hSm]; omega)]))
       let oN : Option Nat := by first | exact some capn | exact some cap_o | exact none
       refine nl ?_
       refine sq ?_
       refine rg ?_
       refine st (h := sdL) ?_
       refine st (h := sdFA) ?_
       refine st (h := sdL) ?_
       refine st (h := sdA) ?_
       refine so ?_
       refine nl ?_
       refine sq ?_
       refine rg ?_
       refine st (h := sdFA) ?_
       refine st (h := sdL) ?_
       iterate 2 (refine st (h := O) ?_)
       refine nl ?_
       refine cD (fun c2 => ?_) (fun c2 => ?_)
       ·try (exfalso; omega)
        all_goals
          refine rg ?_
          refine st (h := sdFA) ?_
          refine st (h := sdL) ?_
          refine st (h := O) ?_
          refine nl ?_
          iterate 2 (refine bk ?_)
          refine rg ?_
          refine st (h := sdA) ?_
          refine st (h := O) ?_
          refine nl ?_
          refine gbk4 (_) (oN) (i + 1) (cs1) (⟨Sa, Sc, Sn, m1, Sx + x.width, x.run⟩) (by exact ⟨rfl, rfl, rfl, trivial⟩) (by exact ⟨rfl, rfl, rfl, rfl, rfl, rfl, rfl, trivial⟩) (by exact (by repeat' first | exact trivial | refine And.intro rfl ?_)) (by exact add_add _ _ _) ?_ ?_ ?_
          · exact hY.app hp1
          · omega
          · rw [hst, stepS, if_pos c1, if_pos hgp, if_pos hgp]
            refine ⟨by omega, by rw [List.length_append, ← hSm]; exact hm1, hap1, ?_, hRx, hSn, hSc, by rw [hSx], rfl, by dsimp only; omega⟩
            rw [hcs1, hSx]
            exact LR.snoc (Z := Y1) hLR rfl (Pc.pl_cells _ hpg1) fun G hG => ⟨g1, rfl, hRg1 G hG.app_left⟩
       ·try (exfalso; omega)
        all_goals
          refine sk ?_
          iterate 2 (refine bk ?_)
          refine rg ?_
          refine st (h := sdA) ?_
          refine st (h := O) ?_
          refine nl ?_
          refine gbk4 (_) (oN) (i + 1) (cs1) (⟨Sa, Sc, Sn, m1, Sx + x.width, Sr⟩) (by exact ⟨rfl, rfl, rfl, trivial⟩) (by exact ⟨rfl, rfl, rfl, rfl, rfl, rfl, rfl, trivial⟩) (by exact (by repeat' first | exact trivial | refine And.intro rfl ?_)) (by exact add_add _ _ _) ?_ ?_ ?_
          · exact hY.app hp1
          · omega
          · rw [hst, stepS, if_pos c1, if_neg (by omega), if_neg (by omega)]
            refine ⟨by omega, by rw [← hSm]; exact hm1, hap1, by rw [hcs1]; exact LR.more hLR, hRx, hSn, hSc, by rw [hSx], hSr, by dsimp only; omega⟩
      ·
       refine sq ?_
       refine rg ?_
       refine st (h := O) ?_
       refine st (h := sdLN) ?_
       refine st (h := sdFA) ?_
       refine st (h := sdL) ?_
       first
         | refine clA [500001, 500002] [500001, 500002, 500003] [500001, 500002, 2, 9] [(0, _), (2, _), (3, _), (4, _), (5, _), (6, _), (7, _), (9, _), (20, _), (21, _), (22, _)] [(500001, _), (500002, _), (500003, _)] [(2, _), (9, _)] (hL := by simp [tgV, tg2, tg1_i, tg1_b, tg1_n, tg1_o, tg1_w, tg1_p, tg1_pv, hft, hRx.pl.tg, hva.tg]) (h := by exact fun ι hV hl => (show1_CA _ x (.slice ga9 x.glyphs.length gc9) x.run Sx 0 false (hri.le hl) hgi cap_o Sm cs hLR.pl (by rw [hLR.len, ← hSm]) hap.1 hap.2 (by omega)).ofR (argC' (itemArg _ _ _ hip _ _) rfl)) ?_
         | refine clA [500001, 500002] [500001, 500002, 500003] [500001, 500002, 2, 9] [(0, _), (2, _), (3, _), (4, _), (5, _), (6, _), (7, _), (9, _), (20, _), (21, _), (22, _)] [(500001, _), (500002, _)] [(2, _), (9, _)] (hL := by simp [tgV, tg2, tg1_i, tg1_b, tg1_n, tg1_o, tg1_w, tg1_p, tg1_pv, hft, hRx.pl.tg, hva.tg]) (h := by exact fun ι hV hl => (show0_CA _ x (.slice ga9 x.glyphs.length gc9) x.run Sx 0 false (hri.le hl) hgi).ofR (argC' (itemArg _ _ _ hip _ _) rfl)) ?_
       intro v1 Y1 K1 hQ1 hp1 hN1
       obtain ⟨rfl, o1, m1, cs1, rfl, hap1, hz1, hq1⟩ := hQ1
       first
         | (specialize hz1 hgz
            obtain ⟨rfl, hm1, hcs1⟩ := hz1
            replace hm1 : m1 = Sm := by omega
            replace hcs1 : cs1 = cs := by first | exact hcs1 | (rw [hcs1]; exact (List.eq_nil_of_length_eq_zero (by rw [hLR.len, ← hSm]; omega)).symm))
         | (specialize hq1 hgp
            obtain ⟨⟨capn, rfl⟩, hm1, g1, hpg1, hRg1, hcs1⟩ := hq1
            replace hm1 : m1 = Sm + 1 := by omega
            first
              | replace hcs1 : cs1 = cs ++ (pcOf x Sx x.run).cells g1 := by first | exact hcs1 | (rw [hcs1, List.eq_nil_of_length_eq_zero (l := cs) (by rw [hLR.len, ← hSm]; omega)])
              | replace hcs1 : cs1 = cs ++ (pcOf e Sx Sr).cells g1 := by first | exact hcs1 | (rw [hcs1, List.eq_nil_of_length_eq_zero (l := cs) (by rw [hLR.len, ← hSm]; omega)]))
       let oN : Option Nat := by first | exact some capn | exact some cap_o | exact none
       refine nl ?_
       refine sq ?_
       refine rg ?_
       refine st (h := sdL) ?_
       refine st (h := sdFA) ?_
       refine st (h := sdL) ?_
       refine st (h := sdA) ?_
       refine so ?_
       refine nl ?_
       refine sq ?_
       refine rg ?_
       refine st (h := sdFA) ?_
       refine st (h := sdL) ?_
       iterate 2 (refine st (h := O) ?_)
       refine nl ?_
       refine cD (fun c2 => ?_) (fun c2 => ?_)
       ·try (exfalso; omega)
        all_goals
          refine rg ?_
          refine st (h := sdFA) ?_
          refine st (h := sdL) ?_
          refine st (h := O) ?_
          refine nl ?_
          iterate 2 (refine bk ?_)
          refine rg ?_
          refine st (h := sdA) ?_
          refine st (h := O) ?_
          refine nl ?_
          refine gbk4 (_) (oN) (i + 1) (cs1) (⟨Sa, Sc, Sn, m1, Sx + x.width, x.run⟩) (by exact ⟨rfl, rfl, rfl, trivial⟩) (by exact ⟨rfl, rfl, rfl, rfl, rfl, rfl, rfl, trivial⟩) (by exact (by repeat' first | exact trivial | refine And.intro rfl ?_)) (by exact add_add _ _ _) ?_ ?_ ?_
          · exact hY.app hp1
          · omega
          · rw [hst, stepS, if_pos c1, if_pos hgp, if_pos hgp]
            refine ⟨by omega, by rw [List.length_append, ← hSm]; exact hm1, hap1, ?_, hRx, hSn, hSc, by rw [hSx], rfl, by dsimp only; omega⟩
            rw [hcs1, hSx]
            exact LR.snoc (Z := Y1) hLR rfl (Pc.pl_cells _ hpg1) fun G hG => ⟨g1, rfl, hRg1 G hG.app_left⟩
       ·try (exfalso; omega)
        all_goals
          refine sk ?_
          iterate 2 (refine bk ?_)
          refine rg ?_
          refine st (h := sdA) ?_
          refine st (h := O) ?_
          refine nl ?_
          refine gbk4 (_) (oN) (i + 1) (cs1) (⟨Sa, Sc, Sn, m1, Sx + x.width, Sr⟩) (by exact ⟨rfl, rfl, rfl, trivial⟩) (by exact ⟨rfl, rfl, rfl, rfl, rfl, rfl, rfl, trivial⟩) (by exact (by repeat' first | exact trivial | refine And.intro rfl ?_)) (by exact add_add _ _ _) ?_ ?_ ?_
          · exact hY.app hp1
          · omega
          · rw [hst, stepS, if_pos c1, if_neg (by omega), if_neg (by omega)]
            refine ⟨by omega, by rw [← hSm]; exact hm1, hap1, by rw [hcs1]; exact LR.more hLR, hRx, hSn, hSc, by rw [hSx], hSr, by dsimp only; omega⟩
     ·refine sq ?_
      refine rg ?_
      iterate 2 (refine st (h := O) ?_)
      refine nl ?_
      refine cD (fun c3 => ?_) (fun c3 => ?_)
      ·have hkl := hk2l c3
       obtain ⟨gb, go, rfl, hgr⟩ := hRx.rd (by rw [List.length_drop]; omega)
       have hq : look (F.add Y) ⟨gb, go + (0 : Int).toNat * 1, none⟩ = some (.int .i64 (ints gs s.k)) := hN.le _ _ (hgr 0 _ (by rw [List.getElem?_drop]; exact ints_get hkl))
       have hgq := hgb _ (List.mem_of_getElem? (ints_get hkl))
       let oN : Option Nat := by first | exact some cap_o | exact none
       refine dr 7 [9, 500001, 500002, 2, 500003] [0, 1, 2, 3, 4, 2005, 2006, 1007, 2008] ?_
       refine dt (hv := by exact sdL) ?_
       refine dt (hv := by exact O) ?_
       refine dt (hv := by exact (sdX (z := 1))) ?_
       refine dt (hv := by exact (by first | exact sdLG | exact sdW)) ?_
       refine dt (hv := by exact sdA) ?_
       refine dq (hv := by exact fun _ _ => O) ?_
       refine dq (hv := by exact fun _ _ => sdCut1 (n := Sn) (c := Sc)) ?_
       refine dso (hkp := by first | exact Kept.all | exact Kept.k0 | exact Kept.kY | exact Kept.kYY | exact Kept.kY3) ?_
       refine dq (hv := by exact fun _ _ => O) ?_
       refine dn ?_
       iterate 2 (refine bk ?_)
       refine rg ?_
       refine st (h := sdA) ?_
       refine st (h := O) ?_
       refine nl ?_
       refine gbk4 (Y) (oN) (i + 1) (cs) (⟨_, Sc - 1, Sn - 1, Sm, Sx + ints gs s.k, Sr⟩) (by exact ⟨rfl, rfl, rfl, trivial⟩) (by exact ⟨rfl, rfl, rfl, rfl, rfl, rfl, rfl, trivial⟩) (by exact (by repeat' first | exact trivial | refine And.intro rfl ?_)) (by first | rfl | exact add_add _ _ _) ?_ ?_ ?_
       · assumption
       · omega
       · rw [hst, stepS, if_neg c1, if_pos c3]
         exact ⟨by omega, hSm, hap, hLR, tail_RIx (c := Sc) hRx hgr (by omega), by dsimp only; omega, by dsimp only; omega, by rw [hSx], hSr, by dsimp only; omega⟩
      ·let oN : Option Nat := by first | exact some cap_o | exact none
       refine sk ?_
       iterate 2 (refine bk ?_)
       refine rg ?_
       refine st (h := sdA) ?_
       refine st (h := O) ?_
       refine nl ?_
       refine gbk4 (Y) (oN) (i + 1) (cs) (⟨Sa, Sc, Sn, Sm, Sx, Sr⟩) (by exact ⟨rfl, rfl, rfl, trivial⟩) (by exact ⟨rfl, rfl, rfl, rfl, rfl, rfl, rfl, trivial⟩) (by exact (by repeat' first | exact trivial | refine And.intro rfl ?_)) (by first | rfl | exact add_add _ _ _) ?_ ?_ ?_
       · assumption
       · omega
       · rw [hst, stepS, if_neg c1, if_neg c3]
         exact ⟨by omega, hSm, hap, hLR, hRx, hSn, hSc, hSx, hSr, by dsimp only; omega⟩
    ·obtain rfl : i = li.length := by omega
     have h16' := look_leN hN.le h16
     have qk : look (F.add Y) ⟨pb, 0 + 1 + 0, none⟩ = some (.int .i64 e.kind) := lookN_at h16' 1 rfl
     have qw : look (F.add Y) ⟨pb, 0 + 1 + 1, none⟩ = some (.int .i64 e.width) := lookN_at h16' 2 rfl
     have q14 : look (F.add Y) ⟨pb, 0 + 14, none⟩ = some (.bool ov) := lookN_at h16' 14 rfl
     have qe : lookN (F.add Y) ⟨pb, 0 + 1, none⟩ 11 = some (e.cells (.slice ea e.glyphs.length ec)) := by
       refine lookN_of (F := F.add Y) (a := ⟨pb, 0 + 1, none⟩) (cs := e.cells (.slice ea e.glyphs.length ec)) fun j v hj => ?_
       have hj11 : j < (e.cells (.slice ea e.glyphs.length ec)).length := (List.getElem?_eq_some_iff.1 hj).1
       have h := lookN_at h16' (j + 1) (v := v) (by rw [List.getElem?_cons_succ, List.getElem?_append_left hj11]; exact hj)
       rw [← h]
       show look _ ⟨pb, 0 + 1 + j, none⟩ = look _ ⟨pb, 0 + (j + 1), none⟩
       congr 2
       omega
     have heok := heok
     simp only [Item.ok, decide_eq_true_eq] at heok
     refine ex ?_
     iterate 2 (refine sq ?_)
     refine rg ?_
     iterate 2 (refine st (h := O) ?_)
     iterate 2 (refine st (h := sdFA) ?_)
     refine st (h := sdL) ?_
     refine st (h := O) ?_
     refine nl ?_
     refine cD (fun c4 => ?_) (fun c4 => ?_)
     ·rcases Nat.eq_zero_or_pos e.glyphs.length with hgz | hgp
      ·
       refine sq ?_
       refine rg ?_
       iterate 3 (refine st (h := O) ?_)
       refine st (h := sdFA) ?_
       refine st (h := sdLN (hv := by exact qe)) ?_
       refine st (h := O) ?_
       first
         | refine clA [500001, 500002] [500001, 500002, 500003] [500001, 500002, 2] [(0, _), (2, _), (3, _), (4, _)] [(500001, _), (500002, _), (500003, _)] [(2, _)] (h := by exact fun ι hV hl => (show1_CA _ e (.slice ea e.glyphs.length ec) Sr Sx 0 false ((heg.le hN.le).le hl) hegl cap_o Sm cs hLR.pl (by rw [hLR.len, ← hSm]) hap.1 hap.2 (by omega)).ofR (argC' (itemArg _ _ _ hep _ _) rfl)) ?_
         | refine clA [500001, 500002] [500001, 500002, 500003] [500001, 500002, 2] [(0, _), (2, _), (3, _), (4, _)] [(500001, _), (500002, _)] [(2, _)] (h := by exact fun ι hV hl => (show0_CA _ e (.slice ea e.glyphs.length ec) Sr Sx 0 false ((heg.le hN.le).le hl) hegl).ofR (argC' (itemArg _ _ _ hep _ _) rfl)) ?_
       intro v1 Y1 K1 hQ1 hp1 hN1
       have qw : look ((F.add Y).add Y1) ⟨pb, 0 + 1 + 1, none⟩ = some (.int .i64 e.width) := hN1.le _ _ qw
       have q14 : look ((F.add Y).add Y1) ⟨pb, 0 + 14, none⟩ = some (.bool ov) := hN1.le _ _ q14
       obtain ⟨rfl, o1, m1, cs1, rfl, hap1, hz1, hq1⟩ := hQ1
       first
         | (specialize hz1 hgz
            obtain ⟨rfl, hm1, hcs1⟩ := hz1
            replace hm1 : m1 = Sm := by omega
            replace hcs1 : cs1 = cs := by first | exact hcs1 | (rw [hcs1]; exact (List.eq_nil_of_length_eq_zero (by rw [hLR.len, ← hSm]; omega)).symm))
         | (specialize hq1 hgp
            obtain ⟨⟨capn, rfl⟩, hm1, g1, hpg1, hRg1, hcs1⟩ := hq1
            replace hm1 : m1 = Sm + 1 := by omega
            first
              | replace hcs1 : cs1 = cs ++ (pcOf x Sx x.run).cells g1 := by first | exact hcs1 | (rw [hcs1, List.eq_nil_of_length_eq_zero (l := cs) (by rw [hLR.len, ← hSm]; omega)])
              | replace hcs1 : cs1 = cs ++ (pcOf e Sx Sr).cells g1 := by first | exact hcs1 | (rw [hcs1, List.eq_nil_of_length_eq_zero (l := cs) (by rw [hLR.len, ← hSm]; omega)]))
       refine nl ?_
       refine dr 7 [500001, 500002, 500003, 2] [0, 1, 2, 3, 4, 5, 6, 1007] ?_
       refine dt (hv := by exact sdL) ?_
       iterate 2 (refine dt (hv := by exact O) ?_)
       iterate 2 (refine dt (hv := by exact sdFA) ?_)
       refine dt (hv := by exact sdL) ?_
       refine dt (hv := by exact sdA) ?_
       refine dso (hkp := by first | exact Kept.all | exact Kept.k0 | exact Kept.kY | exact Kept.kYY | exact Kept.kY3) ?_
       refine dn ?_
       refine sq ?_
       refine drK 9 [500001, 500002, 500003, 2] [(2, _), (500002, _)] [0, 1, 2, 3, 4, 5, 1006, 7, 1008] ?_
       refine dt (hv := by exact sdL) ?_
       iterate 2 (refine dt (hv := by exact O) ?_)
       refine dt (hv := by exact sdFA) ?_
       refine dt (hv := by exact sdL) ?_
       refine dt (hv := by exact sdFA) ?_
       refine dso (hkp := by first | exact Kept.all | exact Kept.k0 | exact Kept.kY | exact Kept.kYY | exact Kept.kY3) ?_
       refine dt (hv := by exact sdFA) ?_
       refine dso (hkp := by first | exact Kept.all | exact Kept.k0 | exact Kept.kY | exact Kept.kYY | exact Kept.kY3) ?_
       refine dn ?_
       refine sq ?_
       refine rg ?_
       refine st (h := sdLN) ?_
       refine so ?_
       refine nl ?_
       rw [add_add]
       first
         | (have hL : lineS gs li e (beginD fr ag) ov = ⟨Sx + e.width, ov, s.ps ++ [pcOf e s.x s.run]⟩ := by
              unfold lineS
              rw [if_pos c4, if_pos hgp, hs, hSx]
            rw [hL]
            have hLR1 : LR 7 TPc (Y1 ++ Y) (s.ps ++ [pcOf e s.x s.run]) cs1 := by
              rw [hcs1, hSx, hSr]
              exact LR.snoc (Z := Y1) hLR rfl (Pc.pl_cells _ hpg1) fun G hG => ⟨g1, rfl, hRg1 G hG.app_left⟩
            refine J.weak (L0 := [(2, _)]) (K0 := [(2, _), (500003, _)]) (by exact ⟨rfl, trivial⟩) (by exact ⟨rfl, rfl, rfl, rfl, trivial⟩) ?_
            refine rtY (hY.app hp1) fun ι hV => ⟨.slice (some ⟨ι 500003, 0, none⟩) m1 capn, rfl, rfl, fun G hG => ?_⟩
            exact hLR1.readO (Z := [_]) rfl hG (by rw [List.length_append, ← hSm]; exact hm1) hap1.1 hap1.2)
         | (have hL : lineS gs li e (beginD fr ag) ov = ⟨Sx + e.width, ov, s.ps⟩ := by
              unfold lineS
              rw [if_pos c4, if_neg (by omega), hs, hSx]
            rw [hL]
            first
              | (refine J.weak (L0 := [(2, _)]) (K0 := [(2, _), (500003, _)]) (by exact ⟨rfl, trivial⟩) (by exact ⟨rfl, rfl, rfl, rfl, trivial⟩) ?_
                 refine rtY (hY.app hp1) fun ι hV => ⟨.slice (some ⟨ι 500003, 0, none⟩) m1 cap_o, rfl, rfl, fun G hG => ?_⟩
                 exact (LR.more (Z := Y1) hLR).readO (Z := [_]) hcs1 hG (by rw [← hSm]; exact hm1) hap1.1 hap1.2)
              | (refine J.weak (L0 := [(2, _)]) (K0 := [(2, _)]) (by exact ⟨rfl, trivial⟩) (by exact ⟨rfl, rfl, trivial⟩) ?_
                 have hps : s.ps = [] := List.eq_nil_of_length_eq_zero (by omega)
                 rw [hps]
                 exact rtY (hY.app hp1) fun ι hV => ⟨.slice none 0 0, rfl, rfl, fun G hG => RL.nil _⟩))
      ·
       refine sq ?_
       refine rg ?_
       iterate 3 (refine st (h := O) ?_)
       refine st (h := sdFA) ?_
       refine st (h := sdLN (hv := by exact qe)) ?_
       refine st (h := O) ?_
       first
         | refine clA [500001, 500002] [500001, 500002, 500003] [500001, 500002, 2] [(0, _), (2, _), (3, _), (4, _)] [(500001, _), (500002, _), (500003, _)] [(2, _)] (h := by exact fun ι hV hl => (show1_CA _ e (.slice ea e.glyphs.length ec) Sr Sx 0 false ((heg.le hN.le).le hl) hegl cap_o Sm cs hLR.pl (by rw [hLR.len, ← hSm]) hap.1 hap.2 (by omega)).ofR (argC' (itemArg _ _ _ hep _ _) rfl)) ?_
         | refine clA [500001, 500002] [500001, 500002, 500003] [500001, 500002, 2] [(0, _), (2, _), (3, _), (4, _)] [(500001, _), (500002, _)] [(2, _)] (h := by exact fun ι hV hl => (show0_CA _ e (.slice ea e.glyphs.length ec) Sr Sx 0 false ((heg.le hN.le).le hl) hegl).ofR (argC' (itemArg _ _ _ hep _ _) rfl)) ?_
       intro v1 Y1 K1 hQ1 hp1 hN1
       have qw : look ((F.add Y).add Y1) ⟨pb, 0 + 1 + 1, none⟩ = some (.int .i64 e.width) := hN1.le _ _ qw
       have q14 : look ((F.add Y).add Y1) ⟨pb, 0 + 14, none⟩ = some (.bool ov) := hN1.le _ _ q14
       obtain ⟨rfl, o1, m1, cs1, rfl, hap1, hz1, hq1⟩ := hQ1
       first
         | (specialize hz1 hgz
            obtain ⟨rfl, hm1, hcs1⟩ := hz1
            replace hm1 : m1 = Sm := by omega
            replace hcs1 : cs1 = cs := by first | exact hcs1 | (rw [hcs1]; exact (List.eq_nil_of_length_eq_zero (by rw [hLR.len, ← hSm]; omega)).symm))
         | (specialize hq1 hgp
            obtain ⟨⟨capn, rfl⟩, hm1, g1, hpg1, hRg1, hcs1⟩ := hq1
            replace hm1 : m1 = Sm + 1 := by omega
            first
              | replace hcs1 : cs1 = cs ++ (pcOf x Sx x.run).cells g1 := by first | exact hcs1 | (rw [hcs1, List.eq_nil_of_length_eq_zero (l := cs) (by rw [hLR.len, ← hSm]; omega)])
              | replace hcs1 : cs1 = cs ++ (pcOf e Sx Sr).cells g1 := by first | exact hcs1 | (rw [hcs1, List.eq_nil_of_length_eq_zero (l := cs) (by rw [hLR.len, ← hSm]; omega)]))
       refine nl ?_
       refine dr 7 [500001, 500002, 500003, 2] [0, 1, 2, 3, 4, 5, 6, 1007] ?_
       refine dt (hv := by exact sdL) ?_
       iterate 2 (refine dt (hv := by exact O) ?_)
       iterate 2 (refine dt (hv := by exact sdFA) ?_)
       refine dt (hv := by exact sdL) ?_
       refine dt (hv := by exact sdA) ?_
       refine dso (hkp := by first | exact Kept.all | exact Kept.k0 | exact Kept.kY | exact Kept.kYY | exact Kept.kY3) ?_
       refine dn ?_
       refine sq ?_
       refine drK 9 [500001, 500002, 500003, 2] [(2, _), (500002, _)] [0, 1, 2, 3, 4, 5, 1006, 7, 1008] ?_
       refine dt (hv := by exact sdL) ?_
       iterate 2 (refine dt (hv := by exact O) ?_)
       refine dt (hv := by exact sdFA) ?_
       refine dt (hv := by exact sdL) ?_
       refine dt (hv := by exact sdFA) ?_
       refine dso (hkp := by first | exact Kept.all | exact Kept.k0 | exact Kept.kY | exact Kept.kYY | exact Kept.kY3) ?_
       refine dt (hv := by exact sdFA) ?_
       refine dso (hkp := by first | exact Kept.all | exact Kept.k0 | exact Kept.kY | exact Kept.kYY | exact Kept.kY3) ?_
       refine dn ?_
       refine sq ?_
       refine rg ?_
       refine st (h := sdLN) ?_
       refine so ?_
       refine nl ?_
       rw [add_add]
       first
         | (have hL : lineS gs li e (beginD fr ag) ov = ⟨Sx + e.width, ov, s.ps ++ [pcOf e s.x s.run]⟩ := by
              unfold lineS
              rw [if_pos c4, if_pos hgp, hs, hSx]
            rw [hL]
            have hLR1 : LR 7 TPc (Y1 ++ Y) (s.ps ++ [pcOf e s.x s.run]) cs1 := by
              rw [hcs1, hSx, hSr]
              exact LR.snoc (Z := Y1) hLR rfl (Pc.pl_cells _ hpg1) fun G hG => ⟨g1, rfl, hRg1 G hG.app_left⟩
            refine J.weak (L0 := [(2, _)]) (K0 := [(2, _), (500003, _)]) (by exact ⟨rfl, trivial⟩) (by exact ⟨rfl, rfl, rfl, rfl, trivial⟩) ?_
            refine rtY (hY.app hp1) fun ι hV => ⟨.slice (some ⟨ι 500003, 0, none⟩) m1 capn, rfl, rfl, fun G hG => ?_⟩
            exact hLR1.readO (Z := [_]) rfl hG (by rw [List.length_append, ← hSm]; exact hm1) hap1.1 hap1.2)
         | (have hL : lineS gs li e (beginD fr ag) ov = ⟨Sx + e.width, ov, s.ps⟩ := by
              unfold lineS
              rw [if_pos c4, if_neg (by omega), hs, hSx]
            rw [hL]
            first
              | (refine J.weak (L0 := [(2, _)]) (K0 := [(2, _), (500003, _)]) (by exact ⟨rfl, trivial⟩) (by exact ⟨rfl, rfl, rfl, rfl, trivial⟩) ?_
                 refine rtY (hY.app hp1) fun ι hV => ⟨.slice (some ⟨ι 500003, 0, none⟩) m1 cap_o, rfl, rfl, fun G hG => ?_⟩
                 exact (LR.more (Z := Y1) hLR).readO (Z := [_]) hcs1 hG (by rw [← hSm]; exact hm1) hap1.1 hap1.2)
              | (refine J.weak (L0 := [(2, _)]) (K0 := [(2, _)]) (by exact ⟨rfl, trivial⟩) (by exact ⟨rfl, rfl, trivial⟩) ?_
                 have hps : s.ps = [] := List.eq_nil_of_length_eq_zero (by omega)
                 rw [hps]
                 exact rtY (hY.app hp1) fun ι hV => ⟨.slice none 0 0, rfl, rfl, fun G hG => RL.nil _⟩))
     ·refine sk ?_
      refine sq ?_
      refine drK 9 [500001, 500002, 2, 500003] [(2, _), (500002, _)] [0, 1, 2, 3, 4, 5, 1006, 7, 1008] ?_
      refine dt (hv := by exact sdL) ?_
      iterate 2 (refine dt (hv := by exact O) ?_)
      refine dt (hv := by exact sdFA) ?_
      refine dt (hv := by exact sdL) ?_
      refine dt (hv := by exact sdFA) ?_
      refine dso (hkp := by first | exact Kept.all | exact Kept.k0 | exact Kept.kY | exact Kept.kYY | exact Kept.kY3) ?_
      refine dt (hv := by exact sdFA) ?_
      refine dso (hkp := by first | exact Kept.all | exact Kept.k0 | exact Kept.kY | exact Kept.kYY | exact Kept.kY3) ?_
      refine dn ?_
      refine sq ?_
      refine rg ?_
      refine st (h := sdLN) ?_
      refine so ?_
      refine nl ?_
      have hL : lineS gs li e (beginD fr ag) ov = ⟨Sx, ov, s.ps⟩ := by
        unfold lineS
        rw [if_neg c4, hs, hSx]
      rw [hL]
      first
        | (refine J.weak (L0 := [(2, _)]) (K0 := [(2, _), (500003, _)]) (by exact ⟨rfl, trivial⟩) (by exact ⟨rfl, rfl, rfl, rfl, trivial⟩) ?_
           refine rtY hY fun ι hV => ⟨.slice (some ⟨ι 500003, 0, none⟩) Sm cap_o, rfl, rfl, fun G hG => ?_⟩
           exact hLR.readO (Z := [_]) rfl hG hSm hap.1 hap.2)
        | (refine J.weak (L0 := [(2, _)]) (K0 := [(2, _)]) (by exact ⟨rfl, trivial⟩) (by exact ⟨rfl, rfl, trivial⟩) ?_
           have hps : s.ps = [] := List.eq_nil_of_length_eq_zero (by omega)
           rw [hps]
           exact rtY hY fun ι hV => ⟨.slice none 0 0, rfl, rfl, fun G hG => RL.nil _⟩)
end Go.Proofs.Ytnkddjdmpnghmaa.Am
namespace Go.Proofs.Ytnkddjdmpnghmaa.Am
set_option linter.unusedSimpArgs false
set_option linter.unusedVariables false
set_option maxRecDepth 100000
set_option maxHeartbeats 4000000
open Go Go.RowKit
theorem of_Cb (F Fb : Mem) (v : Value) (l : List Item) (a b width ag : Int) (hv : RItems Fb v l) (hle : Fb.le F) (hg : goodL l = true) (ha : -1 ≤ a) (hb0 : 0 ≤ b) (hb : b < l.length) (hln : lineB l a b = true) (hw : 1 ≤ width ∧ width ≤ 1073741824) (hcap : ∀ a n c, v = .slice (some a) n c → n ≤ c) : C Try.prog 29 [v, .int .i64 a, .int .i64 b, .int .i64 width, .int .i64 ag] F (fun u Y => RLn Fb u Y ((l.drop (fromA l (a + 1).toNat b.toNat)).take (b.toNat - fromA l (a + 1).toNat b.toNat)) (at_ l b.toNat) (glueD l (a + 1).toNat b.toNat width ag).1 (width - mW l (a + 1).toNat b.toNat) (glueD l (a + 1).toNat b.toNat width ag).2 ag) := by
  have eb : ((b.toNat : Nat) : Int) = b := by omega
  have := of_C F Fb v l a (a + 1).toNat b.toNat width ag hv hle hg (by omega) (by omega) (by rw [eb]; exact hln) hw hcap
  rwa [eb] at this
theorem argC {f : Value → Value} {a a' : Value} {l l' : List Value} (h1 : f a = a') (h2 : l.map f = l') : (a :: l).map f = a' :: l' := by rw [List.map_cons, h1, h2]
theorem Glue_C (F : Mem) (v : Value) (l : List Item) (a b width al : Int) (hv : RItems F v l) (hcap : ∀ a n c, v = .slice (some a) n c → n ≤ c) : C Try.prog 17 [v, .int .i64 a, .int .i64 b, .int .i64 width, .int .i64 al] F (RedGl (gluT l a b width al)) := by
  obtain ⟨va, vn, vc, hva, rfl⟩ := hv.slq.opq
  have hno : ∀ P : Prop, (lineB l a b = true → mayB width al = true → False) → gluT l a b width al = ([], false) := fun P h => if_neg fun e => h e.1 e.2
  refine C.go hT Try.func17 Try.ntmps17 ?_
  refine sq ?_
  refine rg ?_
  iterate 2 (refine st (h := O) ?_)
  refine nl ?_
  iterate 2 (refine sq ?_)
  refine rg ?_
  iterate 2 (refine st (h := O) ?_)
  refine cl (h := by exact fun ι hV hl => may_C _ _ _) ?_
  iterate 2 (refine st (h := O) ?_)
  refine gB (fun g17 => ?_) (fun g17 => ?_)
  ·refine sp ?_
   iterate 3 (refine sp ?_)
   iterate 2 (refine st (h := O) ?_)
   iterate 3 (refine sp ?_)
   iterate 2 (refine st (h := O) ?_)
   iterate 3 (refine sp ?_)
   iterate 4 (refine su ?_)
   refine sp ?_
   refine st (h := O) ?_
   refine nl ?_
   refine cT ?_
   refine sq ?_
   refine rg ?_
   iterate 2 (refine st (h := O) ?_)
   refine nl ?_
   first
     | (refine rt (RedGl.no (hno True fun h hm => ?_) rfl)
        first
          | (simp [hm] at g17; done)
          | (rw [lineB_iff] at h
             first
               | (simp [h.1] at g23; done)
               | omega
               | (rcases h.2.2 with e | e
                  · omega
                  · simp [e] at c0)))
     | (rw [hok]
        exact rtY (v := .tuple #[.slice ga (glueD l (a + 1).toNat b.toNat width al).1.length gc, .bool (glueD l (a + 1).toNat b.toNat width al).2]) hp1 fun ι hV => ⟨ga, gc, (congrArg (fun z => Value.tuple #[z, .bool (glueD l (a + 1).toNat b.toNat width al).2]) (hix.pl.r ι _ _)), fun G hG => (hR G hG).2.1⟩)
  ·refine sg (h := O) ?_
   refine sg (h := O) ?_
   refine clg (h := by exact fun ι hV hl => (Legal_C _ _ _ _ (hv.le hl)).ofR (arg2 (hva.rV ι _ _) rfl)) ?_
   refine sg (h := O) ?_
   iterate 2 (refine st (h := O) ?_)
   refine gB (fun g23 => ?_) (fun g23 => ?_)
   ·refine sp ?_
    iterate 2 (refine sp ?_)
    iterate 2 (refine st (h := O) ?_)
    iterate 3 (refine sp ?_)
    iterate 4 (refine su ?_)
    refine sp ?_
    refine st (h := O) ?_
    refine nl ?_
    refine cT ?_
    refine sq ?_
    refine rg ?_
    iterate 2 (refine st (h := O) ?_)
    refine nl ?_
    first
      | (refine rt (RedGl.no (hno True fun h hm => ?_) rfl)
         first
           | (simp [hm] at g17; done)
           | (rw [lineB_iff] at h
              first
                | (simp [h.1] at g23; done)
                | omega
                | (rcases h.2.2 with e | e
                   · omega
                   · simp [e] at c0)))
      | (rw [hok]
         exact rtY (v := .tuple #[.slice ga (glueD l (a + 1).toNat b.toNat width al).1.length gc, .bool (glueD l (a + 1).toNat b.toNat width al).2]) hp1 fun ι hV => ⟨ga, gc, (congrArg (fun z => Value.tuple #[z, .bool (glueD l (a + 1).toNat b.toNat width al).2]) (hix.pl.r ι _ _)), fun G hG => (hR G hG).2.1⟩)
   ·refine sg (h := O) ?_
    iterate 2 (refine sg (h := O) ?_)
    iterate 2 (refine st (h := O) ?_)
    refine gD (fun g28 => ?_) (fun g28 => ?_)
    ·refine sp ?_
     iterate 2 (refine sp ?_)
     iterate 4 (refine su ?_)
     refine sp ?_
     refine st (h := O) ?_
     refine nl ?_
     refine cT ?_
     refine sq ?_
     refine rg ?_
     iterate 2 (refine st (h := O) ?_)
     refine nl ?_
     first
       | (refine rt (RedGl.no (hno True fun h hm => ?_) rfl)
          first
            | (simp [hm] at g17; done)
            | (rw [lineB_iff] at h
               first
                 | (simp [h.1] at g23; done)
                 | omega
                 | (rcases h.2.2 with e | e
                    · omega
                    · simp [e] at c0)))
       | (rw [hok]
          exact rtY (v := .tuple #[.slice ga (glueD l (a + 1).toNat b.toNat width al).1.length gc, .bool (glueD l (a + 1).toNat b.toNat width al).2]) hp1 fun ι hV => ⟨ga, gc, (congrArg (fun z => Value.tuple #[z, .bool (glueD l (a + 1).toNat b.toNat width al).2]) (hix.pl.r ι _ _)), fun G hG => (hR G hG).2.1⟩)
    ·refine sg (h := O) ?_
     iterate 2 (refine sg (h := O) ?_)
     refine gN (fun g31 => ?_) (fun g31 => ?_)
     ·refine sg (h := O) ?_
      refine sg (h := O) ?_
      refine clg (h := by exact fun ι hV hl => (Legal_C _ _ _ _ (hv.le hl)).ofR (arg2 (hva.rV ι _ _) rfl)) ?_
      iterate 2 (refine sg (h := O) ?_)
      refine st (h := O) ?_
      refine nl ?_
      refine cB (fun c0 => ?_) (fun c0 => ?_)
      ·refine sq ?_
       refine rg ?_
       iterate 2 (refine st (h := O) ?_)
       refine nl ?_
       first
         | (refine rt (RedGl.no (hno True fun h hm => ?_) rfl)
            first
              | (simp [hm] at g17; done)
              | (rw [lineB_iff] at h
                 first
                   | (simp [h.1] at g23; done)
                   | omega
                   | (rcases h.2.2 with e | e
                      · omega
                      · simp [e] at c0)))
         | (rw [hok]
            exact rtY (v := .tuple #[.slice ga (glueD l (a + 1).toNat b.toNat width al).1.length gc, .bool (glueD l (a + 1).toNat b.toNat width al).2]) hp1 fun ι hV => ⟨ga, gc, (congrArg (fun z => Value.tuple #[z, .bool (glueD l (a + 1).toNat b.toNat width al).2]) (hix.pl.r ι _ _)), fun G hG => (hR G hG).2.1⟩)
      ·refine sk ?_
       refine sq ?_
       have hm : mayB width al = true := by simpa using g17
       have hgb : (goodL l && legalB l b) = true := by simpa using g23
       have hg : goodL l = true := by
         simp only [Bool.and_eq_true] at hgb
         exact hgb.1
       have hln : lineB l a b = true := by
         refine lineB_iff.2 ⟨hgb, by omega, ?_⟩
         first
           | exact .inl (by omega)
           | exact .inr (by simpa using c0)
       have hok : gluT l a b width al = glueD l (a + 1).toNat b.toNat width al := if_pos ⟨hln, hm⟩
       have hlt := lineB_lt hln
       have hm2 := hm
       simp only [mayB, decide_eq_true_eq] at hm2
       refine rg ?_
       iterate 5 (refine st (h := O) ?_)
       refine clC (h := by exact fun ι hV hl => (of_Cb _ F _ l a b width al hv hl hg (by omega) (by omega) (by omega) hln ⟨hm2.1, hm2.2.1⟩ hcap).ofR (argC (hva.rV ι _ _) rfl)) ?_
       intro u1 Y1 hQ1 hv1 hp1 hN1
       obtain ⟨pb, lv, g, ga, gc, rfl, hlv, hgl, hR⟩ := hQ1
       obtain ⟨h16, hix, _⟩ := hR _ hN1.rows
       have q1 : look (F.add Y1) ⟨pb, 0 + 12, none⟩ = some (.slice ga (glueD l (a + 1).toNat b.toNat width al).1.length gc) := lookN_at h16 12 rfl
       have q2 : look (F.add Y1) ⟨pb, 0 + 14, none⟩ = some (.bool (glueD l (a + 1).toNat b.toNat width al).2) := lookN_at h16 14 rfl
       refine st (h := O) ?_
       refine nl ?_
       refine sq ?_
       refine dr 10 [] [0, 1, 2, 3, 4, 5, 6, 7, 8, 9] ?_
       iterate 2 (refine dt (hv := by exact O) ?_)
       refine dt (hv := by exact sdFA) ?_
       refine dt (hv := by exact sdL) ?_
       iterate 2 (refine dt (hv := by exact O) ?_)
       refine dt (hv := by exact sdFA) ?_
       refine dt (hv := by exact sdL) ?_
       iterate 2 (refine dt (hv := by exact O) ?_)
       refine dn ?_
       first
         | (refine rt (RedGl.no (hno True fun h hm => ?_) rfl)
            first
              | (simp [hm] at g17; done)
              | (rw [lineB_iff] at h
                 first
                   | (simp [h.1] at g23; done)
                   | omega
                   | (rcases h.2.2 with e | e
                      · omega
                      · simp [e] at c0)))
         | (rw [hok]
            exact rtY (v := .tuple #[.slice ga (glueD l (a + 1).toNat b.toNat width al).1.length gc, .bool (glueD l (a + 1).toNat b.toNat width al).2]) hp1 fun ι hV => ⟨ga, gc, (congrArg (fun z => Value.tuple #[z, .bool (glueD l (a + 1).toNat b.toNat width al).2]) (hix.pl.r ι _ _)), fun G hG => (hR G hG).2.1⟩)
     ·refine sp ?_
      iterate 3 (refine sp ?_)
      refine sg (h := O) ?_
      refine st (h := O) ?_
      refine nl ?_
      refine cF ?_
      refine sk ?_
      refine sq ?_
      have hm : mayB width al = true := by simpa using g17
      have hgb : (goodL l && legalB l b) = true := by simpa using g23
      have hg : goodL l = true := by
        simp only [Bool.and_eq_true] at hgb
        exact hgb.1
      have hln : lineB l a b = true := by
        refine lineB_iff.2 ⟨hgb, by omega, ?_⟩
        first
          | exact .inl (by omega)
          | exact .inr (by simpa using c0)
      have hok : gluT l a b width al = glueD l (a + 1).toNat b.toNat width al := if_pos ⟨hln, hm⟩
      have hlt := lineB_lt hln
      have hm2 := hm
      simp only [mayB, decide_eq_true_eq] at hm2
      refine rg ?_
      iterate 5 (refine st (h := O) ?_)
      refine clC (h := by exact fun ι hV hl => (of_Cb _ F _ l a b width al hv hl hg (by omega) (by omega) (by omega) hln ⟨hm2.1, hm2.2.1⟩ hcap).ofR (argC (hva.rV ι _ _) rfl)) ?_
      intro u1 Y1 hQ1 hv1 hp1 hN1
      obtain ⟨pb, lv, g, ga, gc, rfl, hlv, hgl, hR⟩ := hQ1
      obtain ⟨h16, hix, _⟩ := hR _ hN1.rows
      have q1 : look (F.add Y1) ⟨pb, 0 + 12, none⟩ = some (.slice ga (glueD l (a + 1).toNat b.toNat width al).1.length gc) := lookN_at h16 12 rfl
      have q2 : look (F.add Y1) ⟨pb, 0 + 14, none⟩ = some (.bool (glueD l (a + 1).toNat b.toNat width al).2) := lookN_at h16 14 rfl
      refine st (h := O) ?_
      refine nl ?_
      refine sq ?_
      refine dr 10 [] [0, 1, 2, 3, 4, 5, 6, 7, 8, 9] ?_
      iterate 2 (refine dt (hv := by exact O) ?_)
      refine dt (hv := by exact sdFA) ?_
      refine dt (hv := by exact sdL) ?_
      iterate 2 (refine dt (hv := by exact O) ?_)
      refine dt (hv := by exact sdFA) ?_
      refine dt (hv := by exact sdL) ?_
      iterate 2 (refine dt (hv := by exact O) ?_)
      refine dn ?_
      first
        | (refine rt (RedGl.no (hno True fun h hm => ?_) rfl)
           first
             | (simp [hm] at g17; done)
             | (rw [lineB_iff] at h
                first
                  | (simp [h.1] at g23; done)
                  | omega
                  | (rcases h.2.2 with e | e
                     · omega
                     · simp [e] at c0)))
        | (rw [hok]
           exact rtY (v := .tuple #[.slice ga (glueD l (a + 1).toNat b.toNat width al).1.length gc, .bool (glueD l (a + 1).toNat b.toNat width al).2]) hp1 fun ι hV => ⟨ga, gc, (congrArg (fun z => Value.tuple #[z, .bool (glueD l (a + 1).toNat b.toNat width al).2]) (hix.pl.r ι _ _)), fun G hG => (hR G hG).2.1⟩)
end Go.Proofs.Ytnkddjdmpnghmaa.Am
namespace Go.Proofs.Ytnkddjdmpnghmaa.Am
set_option linter.unusedSimpArgs false
set_option linter.unusedVariables false
set_option maxRecDepth 100000
set_option maxHeartbeats 4000000
open Go Go.RowKit
def oneD (l : List Item) (a1 b : Nat) (width ag : Int) : Ln :=
  lineS (glueD l a1 b width ag).1 ((l.drop (fromA l a1 b)).take (b - fromA l a1 b)) (at_ l b) (beginD (width - mW l a1 b) ag) (glueD l a1 b width ag).2
def prevA (ats : List Int) : Nat → Int
  | 0 => -1
  | j + 1 => ints ats j
def lnAt (l : List Item) (ats : List Int) (width ag : Int) (j : Nat) : Ln := oneD l (prevA ats j + 1).toNat (ints ats j).toNat width ag
def linesN (l : List Item) (ats : List Int) (width ag : Int) (n : Nat) : List Ln := (List.range n).map (lnAt l ats width ag)
def setD (l : List Item) (ats : List Int) (width ag : Int) : List Ln × Int :=
  if goodL l = false then ([], 220)
  else if (mayB width ag = true ∧ 0 < ats.length ∧ ints ats (ats.length - 1) = (l.length : Int) - 1) ∧ ∀ j, j < ats.length → lineB l (prevA ats j) (ints ats j) = true then (linesN l ats width ag ats.length, 0)
  else ([], 1)
def RedSet (r : List Ln × Int) (v : Value) (Y : List (Nat × Row)) : Prop := ∃ lv, v = .tuple #[lv, .int .i64 r.2] ∧ plain1 lv = true ∧ ∀ G, Rd G Y → RL 3 TLn G lv r.1
theorem linesN_succ (l : List Item) (ats : List Int) (width ag : Int) (n : Nat) : linesN l ats width ag (n + 1) = linesN l ats width ag n ++ [lnAt l ats width ag n] := by
  simp [linesN, List.range_succ]
theorem at_part {l : List Item} {f b i : Nat} (hb : b ≤ l.length) (hi : i < b - f) : at_ ((l.drop f).take (b - f)) i = at_ l (f + i) := by
  simp only [at_, List.getD_eq_getElem?_getD]
  rw [List.getElem?_take, if_pos hi, List.getElem?_drop]
theorem gluL_part {g : Item → Int} {l : List Item} {f b : Nat} (hb : b ≤ l.length) : ∀ {i}, i ≤ b - f → gluL g ((l.drop f).take (b - f)) 0 i = gluL g l f i
  | 0, _ => rfl
  | i + 1, h => by rw [gluL, gluL, gluL_part hb (by omega), Nat.zero_add, at_part hb (by omega)]
theorem part_len {l : List Item} {f b : Nat} (hb : b ≤ l.length) : ((l.drop f).take (b - f)).length = b - f := by rw [List.length_take, List.length_drop]; omega
theorem glueD_len (l : List Item) (a1 b : Nat) (w ag : Int) : (glueD l a1 b w ag).1.length = (glW l a1 b).length := by
  unfold glueD
  split
  · exact giveD_len _ _ _
  · split
    · exact giveD_len _ _ _
    · rfl
theorem giveD_bd {ws ys : List Int} {t sg : Int} (hw : ∀ x ∈ ws, 0 ≤ x ∧ x ≤ 1073741824) (hl : ys.length = ws.length) (hs : sg = 1 ∨ sg = -1) : ∀ x ∈ giveD ws (sharD t ys) sg, -4398046511104 ≤ x ∧ x ≤ 4398046511104 := by
  intro x hx
  generalize ho : sharD t ys = o at hx
  cases o with
  | none => have := hw x hx; omega
  | some s =>
    simp only [giveD, addTo, List.mem_map, List.mem_range] at hx
    obtain ⟨i, hi, rfl⟩ := hx
    have h1 := hw _ (List.mem_of_getElem? (ints_get hi))
    have h2 := sharD_bd ho (j := i) (by omega)
    rw [if_pos hi]
    rcases hs with rfl | rfl <;> omega
theorem glueD_bd {l : List Item} {a1 b : Nat} {w ag : Int} (hg : goodL l = true) (hb : b < l.length) : ∀ x ∈ (glueD l a1 b w ag).1, -4398046511104 ≤ x ∧ x ≤ 4398046511104 := by
  have hf := fromA_le l a1 b
  have oW := gl_mem_ok hg (f := Item.width) (i := fromA l a1 b) (d := b - fromA l a1 b) (by omega) okW
  unfold glueD
  split
  · exact giveD_bd oW (gluL_len _ _ _ _ _) (.inl rfl)
  · split
    · exact giveD_bd oW (gluL_len _ _ _ _ _) (.inr rfl)
    · intro x hx; have := oW x hx; omega
theorem RItems.opl {F : Mem} {v : Value} {l : List Item} (h : RItems F v l) : ∃ a c, PlA a ∧ v = .slice a l.length c := by
  rcases h with ⟨b, o, c, rfl, _⟩ | ⟨rfl, rfl⟩
  · exact ⟨_, c, .inr (.inl ⟨b, o, rfl⟩), rfl⟩
  · exact ⟨none, 0, .inl rfl, rfl⟩
theorem of_set {F G : Mem} {l : List Item} {a1 b : Nat} {width ag : Int} (hg : goodL l = true) (hb : b < l.length) (hw : 1 ≤ width ∧ width ≤ 1073741824) (hgl : ∀ x ∈ l, x.glyphs.length * 8 ≤ 140737488355328) {u : Value} {Y : List (Nat × Row)} (h : RLn F u Y ((l.drop (fromA l a1 b)).take (b - fromA l a1 b)) (at_ l b) (glueD l a1 b width ag).1 (width - mW l a1 b) (glueD l a1 b width ag).2 ag) (hY : Rd G Y) (hle : F.le G) :
    ∃ pb, u = .pointer (some ⟨pb, 0, none⟩) ∧ ∀ H : Mem, G.le H → C Try.prog 30 [.pointer (some ⟨pb, 0, none⟩)] H (fun u Y => ∃ pv, u = .agg ⟨(oneD l a1 b width ag).cells pv⟩ ∧ plain1 pv = true ∧ ∀ G, Rd G Y → RL 7 TPc G pv (oneD l a1 b width ag).pieces) := by
  obtain ⟨pb, lv, g, ga, gc, rfl, hlv, hgl2, hR⟩ := h
  obtain ⟨h16, hix, hgc⟩ := hR _ hY
  refine ⟨pb, rfl, fun H hH => ?_⟩
  have hlen := good_len hg
  have hpl := part_len (l := l) (f := fromA l a1 b) (b := b) (by omega)
  have hm := mW_bd hg (a1 := a1) hb
  refine set_C H pb lv _ _ g ga gc _ _ _ ag ((hlv.le hle).le hH) ((hgl2.le hle).le hH) (look_le_N hH _ _ _ h16) (hix.le hH) hgc ?_ ?_ (good_ok hg (by omega)) (glueD_bd hg hb) (by omega) (by omega) (fun x hx => hgl x (List.mem_of_mem_drop (List.mem_of_mem_take hx))) (hgl _ (List.mem_of_getElem? (at_get hb)))
  · rw [hpl, gluL_part (by omega) (Nat.le_refl _), glueD_len]; rfl
  · intro i hi
    rw [at_part (by omega) (by omega)]
    exact good_ok hg (by omega)
theorem Set_C (F : Mem) (v : Value) (ab : Option Addr) (ac : Nat) (l : List Item) (ats : List Int) (width ag : Int) (hv : RItems F v l) (hax : RIx F ab ats) (hcap : ∀ a n c, v = .slice (some a) n c → n ≤ c) (hgl : ∀ x ∈ l, x.glyphs.length * 8 ≤ 140737488355328) (hal : ats.length ≤ 100000) : C Try.prog 12 [v, .slice ab ats.length ac, .int .i64 width, .int .i64 ag] F (RedSet (setD l ats width ag)) := by
  obtain ⟨vb, vc, hvb, rfl⟩ := hv.opl
  have h220 : goodL l = false → setD l ats width ag = ([], 220) := fun h => if_pos h
  have hno : goodL l = true → ¬ ((mayB width ag = true ∧ 0 < ats.length ∧ ints ats (ats.length - 1) = (l.length : Int) - 1) ∧ ∀ j, j < ats.length → lineB l (prevA ats j) (ints ats j) = true) → setD l ats width ag = ([], 1) := fun h h2 => by
    unfold setD
    rw [if_neg (by rw [h]; decide), if_neg h2]
  have hE : RedSet ([], 1) (.tuple #[.slice none 0 0, .int .i64 1]) [] := ⟨_, rfl, rfl, fun G hG => RL.nil _⟩
  refine C.go hT Try.func12 Try.ntmps12 ?_
  refine sq ?_
  refine rg ?_
  iterate 2 (refine st (h := O) ?_)
  refine nl ?_
  iterate 2 (refine sq ?_)
  refine rg ?_
  refine st (h := O) ?_
  refine cl (h := by exact fun ι hV hl => (IGood_C _ _ l (hv.le hl)).ofR (arg1 (hvb.rV ι _ _))) ?_
  refine st (h := O) ?_
  refine nl ?_
  refine cB (fun c0 => ?_) (fun c0 => ?_)
  ·refine sq ?_
   refine rg ?_
   iterate 2 (refine st (h := O) ?_)
   refine nl ?_
   rw [h220 (by simpa using c0)]
   exact rt ⟨_, rfl, rfl, fun G hG => RL.nil _⟩
  ·have hg : goodL l = true := by simpa using c0
   have hlen := good_len hg
   obtain ⟨yb, yo, rfl⟩ : ∃ b o, vb = some ⟨b, o, none⟩ := by
     rcases hv with ⟨b, o, c, e, _⟩ | ⟨_, rfl⟩
     · simp only [Value.slice.injEq] at e
       exact ⟨b, o, e.1⟩
     · exact absurd hg (by decide)
   refine sk ?_
   iterate 2 (refine sq ?_)
   refine rg ?_
   iterate 2 (refine st (h := O) ?_)
   refine cl (h := by exact fun ι hV hl => may_C _ _ _) ?_
   iterate 2 (refine st (h := O) ?_)
   refine gB (fun g23 => ?_) (fun g23 => ?_)
   ·refine sp ?_
    iterate 2 (refine sp ?_)
    iterate 2 (refine st (h := O) ?_)
    iterate 10 (refine sp ?_)
    refine st (h := O) ?_
    refine nl ?_
    refine cT ?_
    refine sq ?_
    refine rg ?_
    iterate 2 (refine st (h := O) ?_)
    refine nl ?_
    rw [hno hg (fun h => by simp [h.1.1] at g23)]
    exact rt hE
   ·refine sg (h := O) ?_
    iterate 2 (refine sg (h := O) ?_)
    iterate 2 (refine st (h := O) ?_)
    refine gD (fun g28 => ?_) (fun g28 => ?_)
    ·refine sp ?_
     iterate 9 (refine sp ?_)
     refine st (h := O) ?_
     refine nl ?_
     refine cT ?_
     refine sq ?_
     refine rg ?_
     iterate 2 (refine st (h := O) ?_)
     refine nl ?_
     rw [hno hg (fun h => by have := h.1.2.1; omega)]
     exact rt hE
    ·have hm : mayB width ag = true := by simpa using g23
     obtain ⟨xb, xo, rfl, har⟩ := hax.rd (by omega)
     have har' : ∀ i, i < ats.length → look F ⟨xb, xo + i, none⟩ = some (.int .i64 (ints ats i)) := fun i hi => har i _ (ints_get hi)
     have q1 : look F ⟨xb, xo + ((ats.length : Int) - 1).toNat * 1, none⟩ = some (.int .i64 (ints ats (ats.length - 1))) := by
       rw [← har' (ats.length - 1) (by omega)]
       congr 2
       omega
     iterate 3 (refine sg (h := O) ?_)
     refine sg (h := sdS) ?_
     refine sg (h := (sdX (z := 1))) ?_
     refine sg (h := (by first | exact sdLG | exact sdW)) ?_
     iterate 2 (refine sg (h := O) ?_)
     refine sg (h := sdS) ?_
     refine sg (h := O) ?_
     refine st (h := O) ?_
     refine nl ?_
     refine cN (fun c1 => ?_) (fun c1 => ?_)
     ·refine sq ?_
      refine rg ?_
      iterate 2 (refine st (h := O) ?_)
      refine nl ?_
      rw [hno hg (fun h => by have := h.1.2.2; omega)]
      exact rt hE
     ·have hm2 := hm
      simp only [mayB, decide_eq_true_eq] at hm2
      refine sk ?_
      refine sq ?_
      refine rg ?_
      refine st (h := O) ?_
      refine nl ?_
      iterate 2 (refine sq ?_)
      refine rg ?_
      iterate 3 (refine st (h := O) ?_)
      refine nl ?_
      refine bl ?_
      refine J.loop1 (α := Nat) (fun i => i ≤ ats.length ∧ ∀ j, j < i → lineB l (prevA ats j) (ints ats j) = true) (fun i => [(10, .int .i64 (prevA ats i)), (42, .int .i64 i)]) [(0, _), (1, _), (2, _), (3, _), (40, _), (41, _)] (fun i => []) [] (fun i => ats.length - i) (0) (by exact ⟨rfl, rfl, trivial⟩) (by exact ⟨rfl, rfl, rfl, rfl, rfl, rfl, trivial⟩) (by exact trivial) ?_ ?_
      · exact ⟨Nat.zero_le _, fun j hj => absurd hj (Nat.not_lt_zero _)⟩
      ·intro i L1 K1 e1 e2 hI
       dsimp only [apV, apR, List.cons_append, List.nil_append] at e1 e2
       subst e1 e2
       obtain ⟨hi, hch⟩ := hI
       refine sq ?_
       refine rg ?_
       refine st (h := O) ?_
       refine nl ?_
       refine sq ?_
       refine cD (fun c2 => ?_) (fun c2 => ?_)
       ·have hil : i < ats.length := by omega
        have q2 : look F ⟨xb, xo + (i : Int).toNat * 1, none⟩ = some (.int .i64 (ints ats i)) := by
          rw [Int.toNat_natCast, Nat.mul_one]
          exact har' i hil
        have hpv : prevA ats i = -1 ∨ (goodL l && legalB l (prevA ats i)) = true := by
          cases i with
          | zero => exact .inl rfl
          | succ i => exact .inr (lineB_iff.1 (hch i (by omega))).1
        refine sk ?_
        refine sq ?_
        refine bl ?_
        refine sq ?_
        refine rg ?_
        refine st (h := (sdX (z := 1))) ?_
        refine st (h := (by first | exact sdLG | exact sdW)) ?_
        refine st (h := O) ?_
        refine nl ?_
        iterate 2 (refine sq ?_)
        refine rg ?_
        iterate 4 (refine st (h := O) ?_)
        refine gD (fun g49 => ?_) (fun g49 => ?_)
        ·refine sp ?_
         iterate 3 (refine sp ?_)
         refine st (h := O) ?_
         refine nl ?_
         refine cT ?_
         refine sq ?_
         refine rg ?_
         iterate 2 (refine st (h := O) ?_)
         refine nl ?_
         rw [hno hg (fun h => by have := (lineB_iff.1 (h.2 i hil)).2.1; omega)]
         exact rt hE
        ·refine sg (h := O) ?_
         refine sg (h := O) ?_
         refine clg (h := by exact fun ι hV hl => (Legal_C _ _ l _ (hv.le hl)).ofR (arg2 (hvb.rV ι _ _) rfl)) ?_
         refine sg (h := O) ?_
         refine st (h := O) ?_
         refine nl ?_
         refine cB (fun c3 => ?_) (fun c3 => ?_)
         ·refine sq ?_
          refine rg ?_
          iterate 2 (refine st (h := O) ?_)
          refine nl ?_
          rw [hno hg (fun h => by
            have := lineB_iff.1 (h.2 i hil)
            first
              | (have := this.2.1; omega)
              | simp [this.1] at c3)]
          exact rt hE
         ·refine sk ?_
          refine rg ?_
          iterate 2 (refine st (h := O) ?_)
          refine nl ?_
          refine bk ?_
          refine rg ?_
          refine st (h := sdA) ?_
          refine st (h := O) ?_
          refine nl ?_
          refine bk1 (i + 1) (by exact ⟨rfl, rfl, trivial⟩) (by exact ⟨rfl, rfl, rfl, rfl, rfl, rfl, trivial⟩) (by exact trivial) ?_ ?_
          · omega
          · refine ⟨by omega, fun j hj => ?_⟩
            rcases Nat.lt_or_ge j i with h | h
            · exact hch j h
            · obtain rfl : j = i := by omega
              exact lineB_iff.2 ⟨by simpa using c3, by omega, hpv⟩
       ·obtain rfl : i = ats.length := by omega
        have hS : setD l ats width ag = (linesN l ats width ag ats.length, 0) := by
          unfold setD
          rw [if_neg (by rw [hg]; decide), if_pos ⟨⟨hm, by omega, by omega⟩, hch⟩]
        refine ex ?_
        refine sq ?_
        refine rg ?_
        refine st (h := O) ?_
        refine nl ?_
        refine sq ?_
        refine rg ?_
        refine st (h := O) ?_
        refine nl ?_
        iterate 2 (refine sq ?_)
        refine rg ?_
        iterate 3 (refine st (h := O) ?_)
        refine nl ?_
        refine bl ?_
        refine J.gloop4 (α := Option Nat) (β := Nat) (γ := Nat) (δ := List Value) (fun Y o m i cs => i ≤ ats.length ∧ m = i ∧ apB o m ∧ LR 3 TLn Y (linesN l ats width ag i) cs) (fun o m i cs => [(10, .int .i64 (prevA ats i)), (13, apV 72 o m), (59, .int .i64 i)]) [(0, _), (2, _), (3, _), (57, _), (58, _)] (fun o m i cs => apR 72 47 3 true o cs ++ []) [] (fun o m i cs => ats.length - i) (none) (0) (0) ([]) (by exact ⟨rfl, rfl, rfl, trivial⟩) (by exact ⟨rfl, rfl, rfl, rfl, rfl, trivial⟩) (by exact (by repeat' first | exact trivial | refine And.intro rfl ?_)) ?_ ?_
        · exact ⟨Nat.zero_le _, rfl, rfl, LR.nil _⟩
        ·intro Y o m i cs L1 K1 e1 e2 hI hY hN
         rcases o with _ | cap_o
         all_goals
          dsimp only [apV, apR, List.cons_append, List.nil_append] at e1 e2
          subst e1 e2
          obtain ⟨hi, hmi, hap, hLR⟩ := hI
          simp only [apB] at hap
          try (obtain rfl : m = 0 := hap)
          have hLl := hLR.len
          have hnl : (linesN l ats width ag i).length = i := by simp [linesN]
          rw [hnl] at hLl
          try (have hz : cs.length = 0 := by omega
               have hz2 := List.eq_nil_of_length_eq_zero hz
               subst hz2)
          refine sq ?_
          refine rg ?_
          refine st (h := O) ?_
          refine nl ?_
          refine sq ?_
          refine cD (fun c4 => ?_) (fun c4 => ?_)
          ·have hil : i < ats.length := by omega
           have q3 : look (F.add Y) ⟨xb, xo + (i : Int).toNat * 1, none⟩ = some (.int .i64 (ints ats i)) := by
             rw [Int.toNat_natCast, Nat.mul_one]
             exact hN.le _ _ (har' i hil)
           have hln := hch i hil
           have hlt := lineB_facts hln
           refine sk ?_
           refine sq ?_
           refine bl ?_
           refine sq ?_
           refine rg ?_
           refine st (h := (sdX (z := 1))) ?_
           refine st (h := (by first | exact sdLG | exact sdW)) ?_
           refine st (h := O) ?_
           refine nl ?_
           refine sq ?_
           refine rg ?_
           iterate 6 (refine st (h := O) ?_)
           refine clC (h := by exact fun ι hV hl => (of_Cb _ F _ l (prevA ats i) (ints ats i) width ag hv (fun _ _ h => hl _ _ (hN.le _ _ h)) hg (by omega) (by omega) (by omega) hln ⟨hm2.1, hm2.2.1⟩ hcap).ofR (argC (hvb.rV ι _ _) rfl)) ?_
           intro u1 Y1 hQ1 hv1 hp1 hN1
           obtain ⟨pb, rfl, hset⟩ := of_set (G := (F.add Y).add Y1) hg (by omega) ⟨hm2.1, hm2.2.1⟩ hgl hQ1 hN1.rows (fun _ _ h => hN1.le _ _ (hN.le _ _ h))
           refine clC (h := by exact fun ι hV hl => hset _ hl) ?_
           intro u2 Y2 hQ2 hv2 hp2 hN2
           obtain ⟨pv, rfl, hpv, hR2⟩ := hQ2
           have h2 := hR2 _ hN2.rows
           rcases h2 with ⟨qb, qo, qc, rfl, _⟩ | ⟨rfl, _⟩
           ·
            refine sl ?_
            first | refine apN (news := [_, _, _]) 72 true [(0, _), (2, _), (3, _), (15, _), (57, _), (58, _), (59, _)] [] ?_ | refine apO (news := [_, _, _]) 1072 72 [(0, _), (2, _), (3, _), (15, _), (57, _), (58, _), (59, _)] [] ?_
            intro cap72 hc72 hd72
            refine st (h := O) ?_
            refine nl ?_
            refine rg ?_
            iterate 2 (refine st (h := O) ?_)
            refine nl ?_
            refine bk ?_
            refine rg ?_
            refine st (h := sdA) ?_
            refine st (h := O) ?_
            refine nl ?_
            refine gbk4 ((Y2 ++ Y1) ++ Y) (some _) (_) (i + 1) (_) (by exact ⟨rfl, rfl, rfl, trivial⟩) (by exact ⟨rfl, rfl, rfl, rfl, rfl, trivial⟩) (by exact (by repeat' first | exact trivial | refine And.intro rfl ?_)) (by rw [add_add, add_add, List.append_assoc]) ?_ ?_ ?_
            · exact PlainRows.app hY (PlainRows.app hp1 hp2)
            · omega
            · refine ⟨by omega, by omega, ⟨by omega, by omega⟩, ?_⟩
              rw [linesN_succ]
              exact LR.snoc (Z := Y2 ++ Y1) hLR rfl (fun v hv => by simp only [Ln.cells, List.mem_cons, List.not_mem_nil, or_false] at hv; rcases hv with rfl | rfl | rfl <;> rfl) fun G hG => ⟨_, rfl, hR2 G hG.app_left.app_left⟩
           ·
            refine sl ?_
            first | refine apN (news := [_, _, _]) 72 true [(0, _), (2, _), (3, _), (15, _), (57, _), (58, _), (59, _)] [] ?_ | refine apO (news := [_, _, _]) 1072 72 [(0, _), (2, _), (3, _), (15, _), (57, _), (58, _), (59, _)] [] ?_
            intro cap72 hc72 hd72
            refine st (h := O) ?_
            refine nl ?_
            refine rg ?_
            iterate 2 (refine st (h := O) ?_)
            refine nl ?_
            refine bk ?_
            refine rg ?_
            refine st (h := sdA) ?_
            refine st (h := O) ?_
            refine nl ?_
            refine gbk4 ((Y2 ++ Y1) ++ Y) (some _) (_) (i + 1) (_) (by exact ⟨rfl, rfl, rfl, trivial⟩) (by exact ⟨rfl, rfl, rfl, rfl, rfl, trivial⟩) (by exact (by repeat' first | exact trivial | refine And.intro rfl ?_)) (by rw [add_add, add_add, List.append_assoc]) ?_ ?_ ?_
            · exact PlainRows.app hY (PlainRows.app hp1 hp2)
            · omega
            · refine ⟨by omega, by omega, ⟨by omega, by omega⟩, ?_⟩
              rw [linesN_succ]
              exact LR.snoc (Z := Y2 ++ Y1) hLR rfl (fun v hv => by simp only [Ln.cells, List.mem_cons, List.not_mem_nil, or_false] at hv; rcases hv with rfl | rfl | rfl <;> rfl) fun G hG => ⟨_, rfl, hR2 G hG.app_left.app_left⟩
          ·obtain rfl : i = ats.length := by omega
           rw [hS]
           refine ex ?_
           refine sq ?_
           refine rg ?_
           iterate 3 (refine st (h := O) ?_)
           refine nl ?_
           first
             | (exfalso; omega)
             | exact rtY hY fun ι hV => ⟨.slice (some ⟨ι 72, 0, none⟩) m cap_o, rfl, rfl, fun G hG => hLR.readO (Z := []) rfl hG (by rw [hnl]; exact hmi) hap.1 hap.2⟩
end Go.Proofs.Ytnkddjdmpnghmaa.Am
namespace Go.Proofs.Ytnkddjdmpnghmaa.Am
set_option linter.unusedSimpArgs false
set_option linter.unusedVariables false
set_option maxRecDepth 100000
set_option maxHeartbeats 4000000
open Go Go.RowKit
deriving instance DecidableEq for Pc
deriving instance DecidableEq for Ln
theorem Pc.ext' {x y : Pc} (h1 : x.x = y.x) (h2 : x.width = y.width) (h3 : x.font = y.font) (h4 : x.size = y.size) (h5 : x.link = y.link) (h6 : x.run = y.run) (h7 : x.glyphs = y.glyphs) : x = y := by
  cases x; cases y; subst h1 h2 h3 h4 h5 h6 h7; rfl
theorem Ln.ext' {x y : Ln} (h1 : x.width = y.width) (h2 : x.over = y.over) (h3 : x.pieces = y.pieces) : x = y := by
  cases x; cases y; subst h1 h2 h3; rfl
theorem pc_at {F : Mem} {v : Value} {ps : List Pc} (h : RL 7 TPc F v ps) : ∃ a c, PlA a ∧ v = .slice a ps.length c ∧ ps.length ≤ 9223372036854775807 ∧ ∀ i, i < ps.length → ∃ b o p ga gc, a = some ⟨b, o, none⟩ ∧ ps[i]? = some p ∧ lookN F ⟨b, o + i * 7, none⟩ 7 = some (p.cells (.slice ga p.glyphs.length gc)) ∧ PlA ga ∧ RInts F (.slice ga p.glyphs.length gc) p.glyphs := by
  obtain ⟨a, c, ha, rfl, h1, h2, hr⟩ := h.opq
  refine ⟨a, c, ha, rfl, by omega, fun i hi => ?_⟩
  obtain ⟨b, o, rfl, hrq⟩ := hr (by omega)
  obtain ⟨cs, h1, g, rfl, hg⟩ := hrq i _ (List.getElem?_eq_getElem hi)
  obtain ⟨ga, gc, rfl, hx⟩ := RIx.ofInts hg
  exact ⟨b, o, _, ga, gc, rfl, List.getElem?_eq_getElem hi, h1, hx.pl, hg⟩
theorem ln_at {F : Mem} {v : Value} {xs : List Ln} (h : RL 3 TLn F v xs) : ∃ a c, PlA a ∧ v = .slice a xs.length c ∧ xs.length ≤ 9223372036854775807 ∧ ∀ i, i < xs.length → ∃ b o x p pc, a = some ⟨b, o, none⟩ ∧ xs[i]? = some x ∧ lookN F ⟨b, o + i * 3, none⟩ 3 = some (x.cells (.slice p x.pieces.length pc)) ∧ PlA p ∧ RL 7 TPc F (.slice p x.pieces.length pc) x.pieces := by
  obtain ⟨a, c, ha, rfl, h1, h2, hr⟩ := h.opq
  refine ⟨a, c, ha, rfl, by omega, fun i hi => ?_⟩
  obtain ⟨b, o, rfl, hrq⟩ := hr (by omega)
  obtain ⟨cs, h1, g, rfl, hg⟩ := hrq i _ (List.getElem?_eq_getElem hi)
  obtain ⟨p, pc, hpa, rfl, _⟩ := pc_at hg
  exact ⟨b, o, _, p, pc, rfl, List.getElem?_eq_getElem hi, h1, hpa, hg⟩
end Go.Proofs.Ytnkddjdmpnghmaa.Am
namespace Go.Proofs.Ytnkddjdmpnghmaa.Am
set_option linter.unusedSimpArgs false
set_option linter.unusedVariables false
set_option maxRecDepth 100000
set_option maxHeartbeats 4000000
open Go Go.RowKit
end Go.Proofs.Ytnkddjdmpnghmaa.Am
namespace Go.Proofs.Ytnkddjdmpnghmaa.Am
set_option linter.unusedSimpArgs false
set_option linter.unusedVariables false
set_option maxRecDepth 100000
set_option maxHeartbeats 4000000
open Go Go.RowKit
end Go.Proofs.Ytnkddjdmpnghmaa.Am
namespace Go.Proofs.Ytnkddjdmpnghmaa.Am
set_option linter.unusedSimpArgs false
set_option linter.unusedVariables false
set_option maxRecDepth 100000
set_option maxHeartbeats 4000000
open Go Go.RowKit
theorem legal_force {l : List Item} {i : Nat} (hi : i < l.length) (h : forceB (at_ l i) = true) : legalB l i = true := by
  simp only [forceB, decide_eq_true_eq] at h
  simp [legalB, hi, h]
/-- the least break behind a line's beginning, and the last one up to which all fits: of so many items -/
def scanF (l : List Item) (w : Int) (a1 : Nat) : Nat → Int × Int
  | 0 => (-1, -1)
  | m + 1 => if legalB l ((a1 + m : Nat) : Int) = true then (if (scanF l w a1 m).1 < 0 then ((a1 + m : Nat) : Int) else (scanF l w a1 m).1, if mW l a1 (a1 + m) - mZ l a1 (a1 + m) ≤ w then ((a1 + m : Nat) : Int) else (scanF l w a1 m).2)
    else scanF l w a1 m
def nextF (l : List Item) (w : Int) (a1 : Nat) : Int :=
  if (scanF l w a1 (foA l a1 + 1 - a1)).2 < 0 then (scanF l w a1 (foA l a1 + 1 - a1)).1 else (scanF l w a1 (foA l a1 + 1 - a1)).2
def pathF (l : List Item) (w : Int) : Nat → Nat → List Int
  | 0, _ => []
  | d + 1, a1 => if a1 < l.length then nextF l w a1 :: pathF l w d (nextF l w a1 + 1).toNat else []
def firstD (l : List Item) (x : Par) : List Int := if goodL l = true ∧ x.good = true then pathF l x.w l.length 0 else []
theorem scanF_bd (l : List Item) (w : Int) (a1 : Nat) : ∀ m, (-1 ≤ (scanF l w a1 m).1 ∧ (scanF l w a1 m).1 < a1 + m ∧ ((scanF l w a1 m).1 < 0 ∨ (a1 : Int) ≤ (scanF l w a1 m).1)) ∧ (-1 ≤ (scanF l w a1 m).2 ∧ (scanF l w a1 m).2 < a1 + m ∧ ((scanF l w a1 m).2 < 0 ∨ (a1 : Int) ≤ (scanF l w a1 m).2))
  | 0 => by simp [scanF]; omega
  | m + 1 => by
    have ih := scanF_bd l w a1 m
    simp only [scanF]
    split
    · dsimp only
      constructor <;> split <;> omega
    · omega
theorem scanF_legal (l : List Item) (w : Int) (a1 : Nat) : ∀ m k, k < m → legalB l ((a1 + k : Nat) : Int) = true → 0 ≤ (scanF l w a1 m).1
  | 0, k, h, _ => by omega
  | m + 1, k, h, hl => by
    simp only [scanF]
    by_cases hk : k = m
    · subst hk
      rw [if_pos hl]
      dsimp only
      split <;> omega
    · have ih := scanF_legal l w a1 m k (by omega) hl
      split
      · dsimp only
        split <;> omega
      · exact ih
theorem nextF_bd {l : List Item} (h : goodL l = true) (w : Int) {a1 : Nat} (ha : a1 < l.length) : (a1 : Int) ≤ nextF l w a1 ∧ nextF l w a1 < l.length := by
  obtain ⟨h1, h2, h3⟩ := foA_last h ha
  have h4 := scanF_legal l w a1 (foA l a1 + 1 - a1) (foA l a1 - a1) (by omega) (by rw [show a1 + (foA l a1 - a1) = foA l a1 from by omega]; exact legal_force h2 h3)
  have h5 := scanF_bd l w a1 (foA l a1 + 1 - a1)
  unfold nextF
  split <;> omega
theorem pathF_end (l : List Item) (w : Int) (d : Nat) : pathF l w d l.length = [] := by cases d <;> simp [pathF]
theorem First_C (F : Mem) (v : Value) (l : List Item) (x : Par) (hv : RItems F v l) : C Try.prog 41 [v, x.v] F (fun u Y => ∀ G, Rd G Y → RInts G u (firstD l x)) := by
  have hno : ¬ (goodL l = true ∧ x.good = true) → firstD l x = [] := fun h => by simp only [firstD, h, if_false]
  have hye : (goodL l = true ∧ x.good = true) → firstD l x = pathF l x.w l.length 0 := fun h => by simp only [firstD, h, and_self, if_true]
  obtain ⟨xw, tol, line, twice, odd⟩ := x
  dsimp only [Par.v]
  rcases hv.forms with ⟨vb, vo, vc, rfl⟩ | ⟨rfl, rfl⟩
  ·
    refine C.go hT Try.func41 Try.ntmps41 ?_
    refine sq ?_
    refine rg ?_
    refine bx ?_
    refine st (h := O) ?_
    refine nl ?_
    iterate 2 (refine sq ?_)
    refine rg ?_
    refine st (h := O) ?_
    refine cl (h := by exact fun ι hV hl => IGood_C _ _ l (hv.le hl)) ?_
    iterate 2 (refine st (h := O) ?_)
    refine gB (fun g15 => ?_) (fun g15 => ?_)
    ·refine sp ?_
     iterate 2 (refine sp ?_)
     refine st (h := O) ?_
     refine nl ?_
     refine cT ?_
     refine sq ?_
     refine rg ?_
     refine st (h := O) ?_
     refine nl ?_
     refine rt (fun G hG => ?_)
     rw [hno (fun h => not_of g15 h.1)]
     exact .inr ⟨rfl, rfl⟩
    ·refine sg (h := sdLN) ?_
     refine clg (h := by exact fun ι hV hl => Good_C _ ⟨xw, tol, line, twice, odd⟩) ?_
     refine sg (h := O) ?_
     refine st (h := O) ?_
     refine nl ?_
     refine cB (fun c0 => ?_) (fun c0 => ?_)
     ·refine sq ?_
      refine rg ?_
      refine st (h := O) ?_
      refine nl ?_
      refine rt (fun G hG => ?_)
      rw [hno (fun h => not_of c0 h.2)]
      exact .inr ⟨rfl, rfl⟩
     ·have hgl := of_not g15
      have hgx := of_not c0
      have hlen := good_len hgl
      rw [hye ⟨hgl, hgx⟩]
      have hgx2 := hgx
      simp only [Par.good, decide_eq_true_eq] at hgx2
      refine sk ?_
      refine sq ?_
      refine rg ?_
      refine st (h := O) ?_
      refine clC (h := by exact fun ι hV hl => ready_C _ (.slice (some ⟨vb, vo, none⟩) l.length vc) l (hv.le hl) hgl) ?_
      intro p Y hQ hpv hpp hN
      have hp := hQ _ (hv.le hN.le) hN.rows
      obtain ⟨pb, po, lb, lo, lc, wb, wo, wc, yb, yo, yc, zb, zo, zc, bb, bo, bc, fb, fo, fc, rfl, ⟨_, _, _, _, _, hf0⟩, _, hf8⟩ := id hp
      refine st (h := O) ?_
      refine nl ?_
      refine sq ?_
      refine rg ?_
      refine st (h := O) ?_
      refine nl ?_
      iterate 2 (refine sq ?_)
      refine rg ?_
      refine st (h := O) ?_
      refine nl ?_
      refine bl ?_
      refine J.loop4 (α := Option Nat) (β := Nat) (γ := List Value) (δ := Int) (fun o m cs a => -1 ≤ a ∧ a < l.length ∧ apB o m ∧ (m : Int) ≤ a + 1 ∧ cs.length = m ∧ ∃ xs d, cs = ivs xs ∧ l.length ≤ (a + 1).toNat + d ∧ pathF l xw l.length 0 = xs ++ pathF l xw d (a + 1).toNat) (fun o m cs a => [(6, apV 67 o m), (7, .int .i64 a)]) [(0, _), (3, _), (5, _)] (fun o m cs a => apR 67 3 1 true o cs ++ []) [(3, _)] (fun o m cs a => l.length - (a + 1).toNat) (none) (0) ([]) (-1) (by exact ⟨rfl, rfl, trivial⟩) (by exact ⟨rfl, rfl, rfl, trivial⟩) (by exact (by repeat' first | exact trivial | refine And.intro rfl ?_)) ?_ ?_
      · exact ⟨by omega, by omega, rfl, by omega, rfl, [], l.length, rfl, by omega, rfl⟩
      ·intro o m cs a L1 K1 e1 e2 hI
       rcases o with _ | cap_o
       all_goals
        dsimp only [apV, apR, List.cons_append, List.nil_append] at e1 e2
        subst e1 e2
        obtain ⟨ha, hal, hap, hm, hcl, xs, d, rfl, hd, hpath⟩ := hI
        simp only [apB] at hap
        try (obtain rfl : m = 0 := hap; obtain rfl : xs = [] := List.eq_nil_of_length_eq_zero (by simpa [ivs] using hcl))
        iterate 2 (refine sq ?_)
        refine rg ?_
        iterate 3 (refine st (h := O) ?_)
        refine st (h := sdS) ?_
        refine st (h := O) ?_
        refine nl ?_
        refine cD (fun c1 => ?_) (fun c1 => ?_)
        ·obtain ⟨a1, ha1⟩ := Int.eq_ofNat_of_zero_le (show (0 : Int) ≤ a + 1 by omega)
         have ha1l : a1 < l.length := by omega
         obtain ⟨_, _, _, _, hfo⟩ := hf8 a1 (by omega)
         have hfo' : look (F.add Y) ⟨fb, fo + (a + 1).toNat * 1, none⟩ = some (.int .i64 (foA l a1)) := by rw [ha1]; exact hfo
         obtain ⟨fl1, fl2, fl3⟩ := foA_last hgl ha1l
         have hnb := nextF_bd hgl xw ha1l
         refine sk ?_
         refine bl ?_
         refine sq ?_
         refine rg ?_
         iterate 2 (refine st (h := O) ?_)
         refine nl ?_
         iterate 2 (refine sq ?_)
         refine rg ?_
         refine st (h := O) ?_
         refine st (h := sdA) ?_
         refine st (h := O) ?_
         refine nl ?_
         refine bl ?_
         first | refine J.loop3 (α := Int) (β := Int) (γ := Int) (fun b least most => (a1 : Int) ≤ b ∧ b ≤ foA l a1 + 1 ∧ scanF l xw a1 (b - a1).toNat = (least, most)) (fun b least most => [(8, .int .i64 least), (9, .int .i64 most), (10, .int .i64 b)]) [(0, _), (3, _), (5, _), (6, _), (7, _)] (fun b least most => []) [(3, _), (67, _)] (fun b least most => (foA l a1 + 1 - b).toNat) (a + 1) (-1) (-1) (by exact ⟨rfl, rfl, rfl, trivial⟩) (by exact ⟨rfl, rfl, rfl, rfl, rfl, trivial⟩) (by exact ⟨rfl, rfl, rfl, rfl, trivial⟩) ?_ ?_ | refine J.loop3 (α := Int) (β := Int) (γ := Int) (fun b least most => (a1 : Int) ≤ b ∧ b ≤ foA l a1 + 1 ∧ scanF l xw a1 (b - a1).toNat = (least, most)) (fun b least most => [(8, .int .i64 least), (9, .int .i64 most), (10, .int .i64 b)]) [(0, _), (3, _), (5, _), (6, _), (7, _)] (fun b least most => []) [(3, _)] (fun b least most => (foA l a1 + 1 - b).toNat) (a + 1) (-1) (-1) (by exact ⟨rfl, rfl, rfl, trivial⟩) (by exact ⟨rfl, rfl, rfl, rfl, rfl, trivial⟩) (by exact ⟨rfl, rfl, trivial⟩) ?_ ?_
         · exact ⟨by omega, by omega, by rw [show (a + 1 - (a1 : Int)).toNat = 0 from by omega]; rfl⟩
         ·intro b least most L1 K1 e1 e2 hI
          dsimp only [apV, apR, List.cons_append, List.nil_append] at e1 e2
          subst e1 e2
          obtain ⟨hb0, hb1, hsc⟩ := hI
          iterate 2 (refine sq ?_)
          refine rg ?_
          iterate 3 (refine st (h := O) ?_)
          refine st (h := sdFA) ?_
          refine st (h := sdL) ?_
          refine st (h := O) ?_
          refine st (h := sdA) ?_
          refine st (h := (sdX (z := 1))) ?_
          refine st (h := (by first | exact sdLG | exact sdW)) ?_
          refine st (h := O) ?_
          refine nl ?_
          refine cD (fun c2 => ?_) (fun c2 => ?_)
          ·obtain ⟨b1, rfl⟩ := Int.eq_ofNat_of_zero_le (show (0 : Int) ≤ b by omega)
           obtain ⟨k, rfl⟩ : ∃ k, b1 = a1 + k := ⟨b1 - a1, by omega⟩
           rw [show ((a1 + k : Nat) : Int) - a1 = k from by omega, Int.toNat_natCast] at hsc
           have hst : scanF l xw a1 (k + 1) = if legalB l ((a1 + k : Nat) : Int) = true then (if least < 0 then ((a1 + k : Nat) : Int) else least, if mW l a1 (a1 + k) - mZ l a1 (a1 + k) ≤ xw then ((a1 + k : Nat) : Int) else most) else (least, most) := by simp only [scanF, hsc]
           have hmb := sums_bd hgl (a1 + k) (by omega)
           refine sk ?_
           refine sq ?_
           refine bl ?_
           iterate 2 (refine sq ?_)
           refine rg ?_
           iterate 2 (refine st (h := O) ?_)
           refine cl (h := by exact fun ι hV hl => legal_C _ _ l _ (hp.le hl).head) ?_
           refine st (h := O) ?_
           refine nl ?_
           refine cB (fun c3 => ?_) (fun c3 => ?_)
           ·refine ex ?_
            refine rg ?_
            refine st (h := O) ?_
            refine st (h := sdA) ?_
            refine st (h := O) ?_
            refine nl ?_
            refine bk3 (_) (_) (_) (by exact ⟨rfl, rfl, rfl, trivial⟩) (by exact ⟨rfl, rfl, rfl, rfl, rfl, trivial⟩) (by exact (by repeat' first | exact trivial | refine And.intro rfl ?_)) ?_ ?_
            · omega
            · refine ⟨by omega, by omega, ?_⟩
              rw [show (((a1 + k : Nat) : Int) + 1 - a1).toNat = k + 1 from by omega, hst]
              first
                | rw [if_neg (not_of c3)]
                | rw [if_pos (of_not c3)]; simp only [c4, c5, if_true, if_false]
           ·refine sk ?_
            iterate 2 (refine sq ?_)
            refine rg ?_
            iterate 2 (refine st (h := O) ?_)
            refine nl ?_
            refine cD (fun c4 => ?_) (fun c4 => ?_)
            ·refine rg ?_
             iterate 2 (refine st (h := O) ?_)
             refine nl ?_
             refine sq ?_
             refine rg ?_
             iterate 3 (refine st (h := O) ?_)
             refine cl (h := by exact fun ι hV hl => measure_C _ _ l a a1 (a1 + k) (hp.le hl) hgl ha1 (by omega) (by omega)) ?_
             have hfr : fromA l a1 (a1 + k) ≤ a1 + k := Nat.min_le_right _ _
             have hmf := sums_bd hgl (fromA l a1 (a1 + k)) (by omega)
             have hok := good_ok hgl (show a1 + k < l.length by omega)
             simp only [Item.ok, decide_eq_true_eq] at hok
             have hwb : -(1073741824 * 2000) ≤ mW l a1 (a1 + k) ∧ mW l a1 (a1 + k) ≤ 1073741824 * 2000 := by unfold mW; split <;> omega
             have hzb : -(1073741824 * 2000) ≤ mZ l a1 (a1 + k) ∧ mZ l a1 (a1 + k) ≤ 1073741824 * 2000 := by unfold mZ; omega
             refine al ?_
             refine so ?_
             refine nl ?_
             refine sq ?_
             refine rg ?_
             refine st (h := sdFA) ?_
             refine st (h := sdL) ?_
             refine st (h := sdFA) ?_
             refine st (h := sdL) ?_
             refine st (h := sdS) ?_
             refine st (h := sdFA) ?_
             refine st (h := sdL) ?_
             refine st (h := O) ?_
             refine nl ?_
             refine cD (fun c5 => ?_) (fun c5 => ?_)
             ·refine rg ?_
              iterate 2 (refine st (h := O) ?_)
              refine nl ?_
              refine bk ?_
              refine rg ?_
              refine st (h := O) ?_
              refine st (h := sdA) ?_
              refine st (h := O) ?_
              refine nl ?_
              refine bk3 (_) (_) (_) (by exact ⟨rfl, rfl, rfl, trivial⟩) (by exact ⟨rfl, rfl, rfl, rfl, rfl, trivial⟩) (by exact (by repeat' first | exact trivial | refine And.intro rfl ?_)) ?_ ?_
              · omega
              · refine ⟨by omega, by omega, ?_⟩
                rw [show (((a1 + k : Nat) : Int) + 1 - a1).toNat = k + 1 from by omega, hst]
                first
                  | rw [if_neg (not_of c3)]
                  | rw [if_pos (of_not c3)]; simp only [c4, c5, if_true, if_false]
             ·refine sk ?_
              refine bk ?_
              refine rg ?_
              refine st (h := O) ?_
              refine st (h := sdA) ?_
              refine st (h := O) ?_
              refine nl ?_
              refine bk3 (_) (_) (_) (by exact ⟨rfl, rfl, rfl, trivial⟩) (by exact ⟨rfl, rfl, rfl, rfl, rfl, trivial⟩) (by exact (by repeat' first | exact trivial | refine And.intro rfl ?_)) ?_ ?_
              · omega
              · refine ⟨by omega, by omega, ?_⟩
                rw [show (((a1 + k : Nat) : Int) + 1 - a1).toNat = k + 1 from by omega, hst]
                first
                  | rw [if_neg (not_of c3)]
                  | rw [if_pos (of_not c3)]; simp only [c4, c5, if_true, if_false]
            ·refine sk ?_
             refine sq ?_
             refine rg ?_
             iterate 3 (refine st (h := O) ?_)
             refine cl (h := by exact fun ι hV hl => measure_C _ _ l a a1 (a1 + k) (hp.le hl) hgl ha1 (by omega) (by omega)) ?_
             have hfr : fromA l a1 (a1 + k) ≤ a1 + k := Nat.min_le_right _ _
             have hmf := sums_bd hgl (fromA l a1 (a1 + k)) (by omega)
             have hok := good_ok hgl (show a1 + k < l.length by omega)
             simp only [Item.ok, decide_eq_true_eq] at hok
             have hwb : -(1073741824 * 2000) ≤ mW l a1 (a1 + k) ∧ mW l a1 (a1 + k) ≤ 1073741824 * 2000 := by unfold mW; split <;> omega
             have hzb : -(1073741824 * 2000) ≤ mZ l a1 (a1 + k) ∧ mZ l a1 (a1 + k) ≤ 1073741824 * 2000 := by unfold mZ; omega
             refine al ?_
             refine so ?_
             refine nl ?_
             refine sq ?_
             refine rg ?_
             refine st (h := sdFA) ?_
             refine st (h := sdL) ?_
             refine st (h := sdFA) ?_
             refine st (h := sdL) ?_
             refine st (h := sdS) ?_
             refine st (h := sdFA) ?_
             refine st (h := sdL) ?_
             refine st (h := O) ?_
             refine nl ?_
             refine cD (fun c5 => ?_) (fun c5 => ?_)
             ·refine rg ?_
              iterate 2 (refine st (h := O) ?_)
              refine nl ?_
              refine bk ?_
              refine rg ?_
              refine st (h := O) ?_
              refine st (h := sdA) ?_
              refine st (h := O) ?_
              refine nl ?_
              refine bk3 (_) (_) (_) (by exact ⟨rfl, rfl, rfl, trivial⟩) (by exact ⟨rfl, rfl, rfl, rfl, rfl, trivial⟩) (by exact (by repeat' first | exact trivial | refine And.intro rfl ?_)) ?_ ?_
              · omega
              · refine ⟨by omega, by omega, ?_⟩
                rw [show (((a1 + k : Nat) : Int) + 1 - a1).toNat = k + 1 from by omega, hst]
                first
                  | rw [if_neg (not_of c3)]
                  | rw [if_pos (of_not c3)]; simp only [c4, c5, if_true, if_false]
             ·refine sk ?_
              refine bk ?_
              refine rg ?_
              refine st (h := O) ?_
              refine st (h := sdA) ?_
              refine st (h := O) ?_
              refine nl ?_
              refine bk3 (_) (_) (_) (by exact ⟨rfl, rfl, rfl, trivial⟩) (by exact ⟨rfl, rfl, rfl, rfl, rfl, trivial⟩) (by exact (by repeat' first | exact trivial | refine And.intro rfl ?_)) ?_ ?_
              · omega
              · refine ⟨by omega, by omega, ?_⟩
                rw [show (((a1 + k : Nat) : Int) + 1 - a1).toNat = k + 1 from by omega, hst]
                first
                  | rw [if_neg (not_of c3)]
                  | rw [if_pos (of_not c3)]; simp only [c4, c5, if_true, if_false]
          ·obtain rfl : b = foA l a1 + 1 := by omega
           have hnx : nextF l xw a1 = if most < 0 then least else most := by
             unfold nextF
             rw [show foA l a1 + 1 - a1 = ((foA l a1 : Int) + 1 - a1).toNat from by omega, hsc]
           refine ex ?_
           iterate 2 (refine sq ?_)
           refine rg ?_
           iterate 2 (refine st (h := O) ?_)
           refine nl ?_
           refine cD (fun c6 => ?_) (fun c6 => ?_)
           ·refine rg ?_
            iterate 2 (refine st (h := O) ?_)
            refine nl ?_
            refine sq ?_
            refine rg ?_
            iterate 2 (refine st (h := O) ?_)
            refine sl ?_
            first | refine apN (news := [_]) 67 true [(0, _), (3, _), (5, _), (9, _)] [(3, _)] ?_ | refine apO (news := [_]) 1067 67 [(0, _), (3, _), (5, _), (9, _)] [(3, _)] ?_
            intro cap67 hc67 hd67
            refine st (h := O) ?_
            refine nl ?_
            refine rg ?_
            iterate 2 (refine st (h := O) ?_)
            refine nl ?_
            refine bk ?_
            refine bk4 (some _) (_) (_) (_) (by exact ⟨rfl, rfl, trivial⟩) (by exact ⟨rfl, rfl, rfl, trivial⟩) (by exact (by repeat' first | exact trivial | refine And.intro rfl ?_)) ?_ ?_
            · omega
            · have hnn : nextF l xw a1 = _ := hnx
              simp only [c6, if_true, if_false] at hnn
              obtain ⟨d, rfl⟩ : ∃ e, d = e + 1 := ⟨d - 1, by omega⟩
              rw [ha1, Int.toNat_natCast, pathF, if_pos ha1l, hnn] at hpath
              rw [hnn] at hnb
              simp only [apB, List.length_append, List.length_cons, List.length_nil]
              refine ⟨by omega, by omega, by omega, by omega, by first | trivial | omega, _ ++ [_], d, by first | exact ivs_snoc _ _ | exact ivs_snoc [] _, by omega, ?_⟩
              rw [hpath, List.append_assoc]; rfl
           ·refine sk ?_
            refine sq ?_
            refine rg ?_
            iterate 2 (refine st (h := O) ?_)
            refine sl ?_
            first | refine apN (news := [_]) 67 true [(0, _), (3, _), (5, _), (9, _)] [(3, _)] ?_ | refine apO (news := [_]) 1067 67 [(0, _), (3, _), (5, _), (9, _)] [(3, _)] ?_
            intro cap67 hc67 hd67
            refine st (h := O) ?_
            refine nl ?_
            refine rg ?_
            iterate 2 (refine st (h := O) ?_)
            refine nl ?_
            refine bk ?_
            refine bk4 (some _) (_) (_) (_) (by exact ⟨rfl, rfl, trivial⟩) (by exact ⟨rfl, rfl, rfl, trivial⟩) (by exact (by repeat' first | exact trivial | refine And.intro rfl ?_)) ?_ ?_
            · omega
            · have hnn : nextF l xw a1 = _ := hnx
              simp only [c6, if_true, if_false] at hnn
              obtain ⟨d, rfl⟩ : ∃ e, d = e + 1 := ⟨d - 1, by omega⟩
              rw [ha1, Int.toNat_natCast, pathF, if_pos ha1l, hnn] at hpath
              rw [hnn] at hnb
              simp only [apB, List.length_append, List.length_cons, List.length_nil]
              refine ⟨by omega, by omega, by omega, by omega, by first | trivial | omega, _ ++ [_], d, by first | exact ivs_snoc _ _ | exact ivs_snoc [] _, by omega, ?_⟩
              rw [hpath, List.append_assoc]; rfl
        ·obtain rfl : a = l.length - 1 := by omega
         refine ex ?_
         refine sq ?_
         refine rg ?_
         iterate 2 (refine st (h := O) ?_)
         refine nl ?_
         refine J.dropF ?_
         refine rtX fun ι hV G hG => ?_
         rw [show ((l.length : Int) - 1 + 1).toNat = l.length from by omega, pathF_end, List.append_nil] at hpath
         rw [hpath]
         first
           | exact .inr ⟨rfl, rfl⟩
           | (simp only [ivs_length] at hcl; subst hcl
              exact hG.ivs (r := _) (ι := ι) (by repeat (first | exact List.mem_cons_self .. | apply List.mem_cons_of_mem)) rfl (by omega))
  ·
    refine C.go hT Try.func41 Try.ntmps41 ?_
    refine sq ?_
    refine rg ?_
    refine bx ?_
    refine st (h := O) ?_
    refine nl ?_
    iterate 2 (refine sq ?_)
    refine rg ?_
    refine st (h := O) ?_
    refine cl (h := by exact fun ι hV hl => IGood_C _ _ [] (hv.le hl)) ?_
    iterate 2 (refine st (h := O) ?_)
    refine gB (fun g15 => ?_) (fun g15 => ?_)
    ·refine sp ?_
     iterate 2 (refine sp ?_)
     refine st (h := O) ?_
     refine nl ?_
     refine cT ?_
     refine sq ?_
     refine rg ?_
     refine st (h := O) ?_
     refine nl ?_
     refine rt (fun G hG => ?_)
     rw [hno (fun h => not_of g15 h.1)]
     exact .inr ⟨rfl, rfl⟩
    ·cases of_not g15
end Go.Proofs.Ytnkddjdmpnghmaa.Am
namespace Go.Proofs.Ytnkddjdmpnghmaa.Am
set_option linter.unusedSimpArgs false
set_option linter.unusedVariables false
set_option maxRecDepth 100000
set_option maxHeartbeats 4000000
open Go Go.RowKit
def breakD (l : List Item) (x : Par) : (List Int × Int × Bool) × Int :=
  if goodL l = true then (if x.good = true then (if (bestD l x).2.2 = true then (bestD l x, 0) else ((firstD l x, 0, false), 0)) else (([], 0, false), 1)) else (([], 0, false), 220)
theorem SlV.plain {w : Value} (h : SlV w) : plain1 w = true := by
  rcases h with ⟨b, o, n, c, rfl⟩ | ⟨n, c, rfl⟩ <;> rfl
theorem Break_C (F : Mem) (v : Value) (l : List Item) (x : Par) (hv : RItems F v l) : C Try.prog 20 [v, x.v] F (fun u Y => ∃ w, u = .tuple #[.agg #[w, .int .i64 (breakD l x).1.2.1, .bool (breakD l x).1.2.2], .int .i64 (breakD l x).2] ∧ SlV w ∧ ∀ G, Rd G Y → RInts G w (breakD l x).1.1) := by
  have hn1 : ¬ goodL l = true → breakD l x = (([], 0, false), 220) := fun h => by rw [breakD, if_neg h]
  have hn2 : goodL l = true → ¬ x.good = true → breakD l x = (([], 0, false), 1) := fun h h2 => by rw [breakD, if_pos h, if_neg h2]
  have hy1 : goodL l = true → x.good = true → (bestD l x).2.2 = true → breakD l x = (bestD l x, 0) := fun h h2 h3 => by rw [breakD, if_pos h, if_pos h2, if_pos h3]
  have hy2 : goodL l = true → x.good = true → ¬ (bestD l x).2.2 = true → breakD l x = ((firstD l x, 0, false), 0) := fun h h2 h3 => by rw [breakD, if_pos h, if_pos h2, if_neg h3]
  have hBt : ∀ G, RItems G v l → _ := fun G h => Best_C G v l x h
  have hFt : ∀ G, RItems G v l → _ := fun G h => First_C G v l x h
  have hGd : ∀ G, _ := fun G => Good_C G x
  obtain ⟨xw, tol, line, twice, odd⟩ := x
  generalize hx : (⟨xw, tol, line, twice, odd⟩ : Par) = x at *
  have hxv : x.v = .agg #[.int .i64 xw, .int .i64 tol, .int .i64 line, .int .i64 twice, .int .i64 odd] := by rw [← hx]; rfl
  rw [hxv] at hBt hFt hGd ⊢
  rcases hv.forms with ⟨vb, vo, vc, rfl⟩ | ⟨rfl, rfl⟩
  ·
    refine C.go hT Try.func20 Try.ntmps20 ?_
    refine sq ?_
    refine rg ?_
    refine bx ?_
    refine al ?_
    refine st (h := O) ?_
    refine nl ?_
    refine sq ?_
    refine bl ?_
    refine sq ?_
    refine rg ?_
    refine st (h := O) ?_
    refine cl (h := by exact fun ι hV hl => IGood_C _ _ l (hv.le hl)) ?_
    iterate 2 (refine st (h := O) ?_)
    refine nl ?_
    refine cB (fun c0 => ?_) (fun c0 => ?_)
    ·refine sq ?_
     refine rg ?_
     refine st (h := O) ?_
     refine so ?_
     refine st (h := O) ?_
     refine nl ?_
     refine rtX fun ι hV => ?_
     rw [hn1 (not_of c0)]
     exact ⟨_, rfl, .inr ⟨0, 0, rfl⟩, fun G hG => .inr ⟨rfl, rfl⟩⟩
    ·refine sq ?_
     refine rg ?_
     refine st (h := sdLN) ?_
     refine cl (h := by exact fun ι hV hl => hGd _) ?_
     iterate 2 (refine st (h := O) ?_)
     refine nl ?_
     refine cB (fun c1 => ?_) (fun c1 => ?_)
     ·refine sq ?_
      refine rg ?_
      refine st (h := O) ?_
      refine so ?_
      refine st (h := O) ?_
      refine nl ?_
      refine rtX fun ι hV => ?_
      rw [hn2 (of_not c0) (not_of c1)]
      exact ⟨_, rfl, .inr ⟨0, 0, rfl⟩, fun G hG => .inr ⟨rfl, rfl⟩⟩
     ·refine sk ?_
      refine bk ?_
      iterate 2 (refine sq ?_)
      refine rg ?_
      refine st (h := O) ?_
      refine st (h := sdLN) ?_
      refine clC (h := by exact fun ι hV hl => hBt _ (hv.le hl)) ?_
      intro u1 Y1 hQ1 hpv1 hpp1 hN1
      obtain ⟨w1, rfl, hw1, hG1⟩ := hQ1
      rcases hw1 with ⟨wb, wo, wn, wc, rfl⟩ | ⟨wn, wc, rfl⟩
      all_goals
        iterate 7 (refine st (h := O) ?_)
        refine nl ?_
        refine sq ?_
        refine rg ?_
        refine st (h := O) ?_
        refine nl ?_
        refine cB (fun c2 => ?_) (fun c2 => ?_)
        ·refine sq ?_
         refine rg ?_
         iterate 3 (refine st (h := O) ?_)
         refine so ?_
         refine st (h := O) ?_
         refine nl ?_
         refine rtY hpp1 fun ι hV => ?_
         rw [hy1 (of_not c0) (of_not c1) c2]
         exact ⟨_, by rw [c2]; rfl, by first | exact .inl ⟨_, _, _, _, rfl⟩ | exact .inr ⟨_, _, rfl⟩, fun G hG => hG1 G hG.app_right⟩
        ·refine sk ?_
         refine sq ?_
         refine rg ?_
         refine st (h := O) ?_
         refine st (h := sdLN) ?_
         refine clC (h := by exact fun ι hV hl => hFt _ ((hv.le hN1.le).le hl)) ?_
         intro u2 Y2 hQ2 hpv2 hpp2 hN2
         have hw2 := (hQ2 _ hN2.rows).sl
         rw [add_add]
         rcases hw2 with ⟨xb, xo, xn, xc, rfl⟩ | ⟨xn, xc, rfl⟩
         all_goals
           refine st (h := O) ?_
           refine so ?_
           refine st (h := O) ?_
           refine nl ?_
           refine rtY (PlainRows.app hpp1 hpp2) fun ι hV => ?_
           rw [hy2 (of_not c0) (of_not c1) (by rw [c2]; decide)]
           exact ⟨_, rfl, by first | exact .inl ⟨_, _, _, _, rfl⟩ | exact .inr ⟨_, _, rfl⟩, fun G hG => hQ2 G hG.app_right.app_left⟩
  ·
    refine C.go hT Try.func20 Try.ntmps20 ?_
    refine sq ?_
    refine rg ?_
    refine bx ?_
    refine al ?_
    refine st (h := O) ?_
    refine nl ?_
    refine sq ?_
    refine bl ?_
    refine sq ?_
    refine rg ?_
    refine st (h := O) ?_
    refine cl (h := by exact fun ι hV hl => IGood_C _ _ [] (hv.le hl)) ?_
    iterate 2 (refine st (h := O) ?_)
    refine nl ?_
    refine cB (fun c0 => ?_) (fun c0 => ?_)
    ·refine sq ?_
     refine rg ?_
     refine st (h := O) ?_
     refine so ?_
     refine st (h := O) ?_
     refine nl ?_
     refine rtX fun ι hV => ?_
     rw [hn1 (not_of c0)]
     exact ⟨_, rfl, .inr ⟨0, 0, rfl⟩, fun G hG => .inr ⟨rfl, rfl⟩⟩
    ·cases of_not c0
/-- one of the call's own rows of numbers, as its callee sees it -/
theorem Val.ints {ι : Nat → Nat} {K : Own} {F : Mem} (h : Val ι K F) {t n c : Nat} {r : Row} {xs : List Int} (hr : K.lookup t = some r) (hcs : r.cs = ivs xs) (hn : n = xs.length) (hl : xs.length ≤ 9223372036854775807) : RInts (push ι K F) (.slice (some ⟨ι t, 0, none⟩) n c) xs := by
  subst hn
  refine .inl ⟨ι t, 0, c, rfl, hl, fun i x hx => ?_⟩
  rw [Nat.zero_add]
  have := h.look hr (o := i) (v := .int .i64 x) (by rw [hcs]; exact ivs_get hx)
  exact this
end Go.Proofs.Ytnkddjdmpnghmaa.Am
namespace Go.Proofs.Ytnkddjdmpnghmaa.Am
set_option linter.unusedSimpArgs false
set_option linter.unusedVariables false
set_option maxRecDepth 100000
set_option maxHeartbeats 4000000
open Go Go.RowKit
theorem SlG.r {g : Value} (h : SlG g) (ι : Nat → Nat) : r1 ι g = g := by
  rcases h with (⟨b, o, n, c, rfl⟩ | ⟨n, c, rfl⟩) | ⟨b, o, s, n, c, rfl⟩ <;> rfl
theorem RGl.forms {F : Mem} {g : Value} {xs : List Int} (h : RGl F g xs) : RInts F g xs ∨ (xs = [] ∧ ∃ b o s, g = .slice (some ⟨b, o, some (s + 1)⟩) 0 0) := by
  rcases h with h | ⟨b, o, s, h, h2⟩
  · exact .inl h
  · exact .inr ⟨h2, b, o, s, h⟩
theorem RGl.r {F : Mem} {g : Value} {xs : List Int} (h : RGl F g xs) (ι : Nat → Nat) : RGl F (r1 ι g) xs := by rw [h.sl.r]; exact h
end Go.Proofs.Ytnkddjdmpnghmaa.Am
namespace Go.Proofs.Ytnkddjdmpnghmaa.Am
set_option linter.unusedSimpArgs false
set_option linter.unusedVariables false
set_option maxRecDepth 100000
set_option maxHeartbeats 4000000
open Go Go.RowKit
def shownL : List Item := fiveL.map fun x => if x.kind = 1 then { x with glyphs := [7] } else x
def mixL (i : Nat) : List Item := shownL.take i ++ fiveL.drop i
def TIt (F : Mem) (x : Item) (cs : List Value) : Prop := ∃ g, cs = x.cells g ∧ RInts F g x.glyphs
theorem FiveR_C (F : Mem) : C Try.prog 45 [] F (fun u Y => ∃ b c, u = .slice (some ⟨b, 0, none⟩) 12 c ∧ Y = [(b, { elem := 49, cs := cellsI fiveL, room := c * 11, fz := false, flat := true })] ∧ 12 ≤ c ∧ c ≤ 9223372036854775807) := by
  refine C.go hT Try.func45 Try.ntmps45 ?_
  refine sq ?_
  refine rg ?_
  refine st (h := O) ?_
  refine nl ?_
  refine sq ?_
  refine rg ?_
  refine st (h := O) ?_
  refine nl ?_
  iterate 2 (refine sq ?_)
  refine rg ?_
  refine st (h := O) ?_
  refine nl ?_
  refine bl ?_
  refine J.loop4 (α := Option Nat) (β := Nat) (γ := Nat) (δ := List Value) (fun o m i cs => i ≤ 5 ∧ m = (fivePre i).length ∧ apB o m ∧ cs = cellsI (fivePre i) ∧ (i = 0 ↔ o = none)) (fun o m i cs => [(1, apV 16 o m), (2, .int .i64 i)]) [] (fun o m i cs => apR 16 49 11 true o cs ++ []) [] (fun o m i cs => 5 - i) (none) (0) (0) ([]) (by exact ⟨rfl, rfl, trivial⟩) (by exact trivial) (by exact (by repeat' first | exact trivial | refine And.intro rfl ?_)) ?_ ?_
  · exact ⟨by omega, rfl, rfl, rfl, by simp⟩
  ·intro o m i cs L1 K1 e1 e2 hI
   rcases o with _ | cap_o
   all_goals
    dsimp only [apV, apR, List.cons_append, List.nil_append] at e1 e2
    subst e1 e2
    obtain ⟨hi5, hm, hap, hcs, hio⟩ := hI
    simp only [apB] at hap
    simp only [reduceCtorEq, iff_false, iff_true] at hio
    have hcl : cs.length = m * 11 := by rw [hcs, hm, cellsI_len]
    have hml : m ≤ 2 * i := hm ▸ fivePre_len i
    iterate 2 (refine sq ?_)
    refine rg ?_
    iterate 2 (refine st (h := O) ?_)
    refine nl ?_
    refine cD (fun c0 => ?_) (fun c0 => ?_)
    ·have hi4 : i < 5 := by omega
     refine sk ?_
     refine sq ?_
     refine bl ?_
     iterate 2 (refine sq ?_)
     refine rg ?_
     iterate 2 (refine st (h := O) ?_)
     refine nl ?_
     refine cD (fun c1 => ?_) (fun c1 => ?_)
     ·refine rg ?_
      iterate 2 (refine st (h := O) ?_)
      refine sl ?_
      first | refine apN (news := [_, _, _, _, _, _, _, _, _, _, _]) 16 true [(2, _)] [] ?_ | refine apO (news := [_, _, _, _, _, _, _, _, _, _, _]) 1016 16 [(2, _)] [] ?_
      intro cap12 hc12 hd12
      refine st (h := O) ?_
      refine nl ?_
      refine rg ?_
      iterate 2 (refine st (h := O) ?_)
      refine sl ?_
      first | refine apO (news := [_, _, _, _, _, _, _, _, _, _, _]) 1016 16 [(2, _)] [] ?_
      intro cap16 hc16 hd16
      refine st (h := O) ?_
      refine nl ?_
      refine bk ?_
      refine rg ?_
      refine st (h := O) ?_
      refine st (h := sdA) ?_
      refine st (h := O) ?_
      refine nl ?_
      refine bk4 (some _) (_) (i + 1) (_) (by exact ⟨rfl, rfl, trivial⟩) (by exact trivial) (by exact (by repeat' first | exact trivial | refine And.intro rfl ?_)) ?_ ?_
      · omega
      · have hst : fivePre (i + 1) = fivePre i ++ (if 0 < i then [gluI, boxI] else [boxI]) := rfl
        first
          | (exfalso; omega)
          | (rw [if_pos (by omega)] at hst
             exact ⟨by omega, by rw [hst, List.length_append, ← hm]; rfl, ⟨by omega, by omega⟩, by rw [hst, cellsI_app, ← hcs, List.append_assoc]; rfl, by simp⟩)
          | (subst hio
             exact ⟨by omega, rfl, ⟨by omega, by omega⟩, rfl, by simp⟩)
     ·refine sk ?_
      refine rg ?_
      iterate 2 (refine st (h := O) ?_)
      refine sl ?_
      first | refine apN (news := [_, _, _, _, _, _, _, _, _, _, _]) 16 true [(2, _)] [] ?_ | refine apO (news := [_, _, _, _, _, _, _, _, _, _, _]) 1016 16 [(2, _)] [] ?_
      intro cap16 hc16 hd16
      refine st (h := O) ?_
      refine nl ?_
      refine bk ?_
      refine rg ?_
      refine st (h := O) ?_
      refine st (h := sdA) ?_
      refine st (h := O) ?_
      refine nl ?_
      refine bk4 (some _) (_) (i + 1) (_) (by exact ⟨rfl, rfl, trivial⟩) (by exact trivial) (by exact (by repeat' first | exact trivial | refine And.intro rfl ?_)) ?_ ?_
      · omega
      · have hst : fivePre (i + 1) = fivePre i ++ (if 0 < i then [gluI, boxI] else [boxI]) := rfl
        first
          | (exfalso; omega)
          | (rw [if_pos (by omega)] at hst
             exact ⟨by omega, by rw [hst, List.length_append, ← hm]; rfl, ⟨by omega, by omega⟩, by rw [hst, cellsI_app, ← hcs, List.append_assoc]; rfl, by simp⟩)
          | (subst hio
             exact ⟨by omega, rfl, ⟨by omega, by omega⟩, rfl, by simp⟩)
    ·obtain rfl : i = 5 := by omega
     refine ex ?_
     refine sq ?_
     refine rg ?_
     iterate 4 (refine st (h := O) ?_)
     refine sl ?_
     first | refine apN (news := [_, _, _, _, _, _, _, _, _, _, _, _, _, _, _, _, _, _, _, _, _, _, _, _, _, _, _, _, _, _, _, _, _]) 16 true [] [] ?_ | refine apO (news := [_, _, _, _, _, _, _, _, _, _, _, _, _, _, _, _, _, _, _, _, _, _, _, _, _, _, _, _, _, _, _, _, _]) 1016 16 [] [] ?_
     intro cap22 hc22 hd22
     refine st (h := O) ?_
     refine nl ?_
     first
       | (exfalso; omega)
       | (refine J.weak (L0 := [(0, _)]) (K0 := [(16, _)]) (by exact ⟨rfl, trivial⟩) (by exact ⟨rfl, rfl, trivial⟩) ?_
          refine rtX (v := .slice (some ⟨16, 0, some 0⟩) (m + 3) cap22) fun ι hV => ⟨ι 16, cap22, by rw [show 12 = m + 3 from by rw [hm]; rfl]; rfl, ?_, ?_, ?_⟩
          rotate_left
          · have h9 : (fivePre 5).length = 9 := rfl
            omega
          · omega
          · rw [List.map_cons, List.map_nil]
            refine congrArg (fun z => [(ι 16, z)]) ?_
            refine congrArg (fun z => (Row.mk _ z _ _ _)) ?_
            show List.map (r1 ι) _ = _
            rw [hcs]
            show (List.map (r1 ι) (cellsI (fivePre 5) ++ cellsI [⟨3, 0, 0, 0, 10000, false, 0, 0, 0, 0, []⟩, ⟨2, 0, 1073741824, 0, 0, false, 0, 0, 0, 0, []⟩, ⟨3, 0, 0, 0, -10000, false, 0, 0, 0, 0, []⟩])) = _
            rw [← cellsI_app, cellsI_c]
            rfl)
theorem put_LR {α : Type} {sz : Nat} {T : Mem → α → List Value → Prop} {Y Z : List (Nat × Row)} {xs : List α} {cs : List Value} (h : LR sz T Y xs cs) {i j : Nat} {x x' : α} {v : Value} (hx : xs[i]? = some x) (hj : j < sz) (hv : plain1 v = true) (hT : ∀ c, (∀ G, Rd G Y → T G x c) → ∀ G, Rd G (Z ++ Y) → T G x' (c.set j v)) : LR sz T (Z ++ Y) (xs.set i x') (cs.take (i * sz + j) ++ v :: cs.drop (i * sz + j + 1)) := by
  have hi := (List.getElem?_eq_some_iff.1 hx).1
  have hlt : i * sz + j < cs.length := by
    rw [h.len]
    calc i * sz + j < i * sz + sz := by omega
      _ = (i + 1) * sz := by rw [Nat.add_mul, Nat.one_mul]
      _ ≤ xs.length * sz := Nat.mul_le_mul_right _ hi
  have e : cs.take (i * sz + j) ++ v :: cs.drop (i * sz + j + 1) = cs.set (i * sz + j) v := by rw [List.set_eq_take_append_cons_drop, if_pos hlt]
  rw [e]
  refine ⟨by rw [List.length_set, List.length_set, h.len], fun u hu => ?_, fun k y hy => ?_⟩
  · rcases List.mem_or_eq_of_mem_set hu with hu | rfl
    · exact h.pl u hu
    · exact hv
  · by_cases hk : i = k
    · subst hk
      rw [List.getElem?_set_self hi] at hy
      simp only [Option.some.injEq] at hy
      subst hy
      obtain ⟨c, h1, h2, h3⟩ := h.el i x hx
      refine ⟨c.set j v, by rw [List.length_set, h1], hT c h2, fun q u hu => ?_⟩
      rw [List.getElem?_set] at hu ⊢
      split at hu
      · rename_i e
        subst e
        rw [if_pos rfl, if_pos (by omega)]
        rw [if_pos (by omega)] at hu
        exact hu
      · rename_i e
        rw [if_neg (by omega)]
        exact h3 q u hu
    · rw [List.getElem?_set_ne hk] at hy
      obtain ⟨c, h1, h2, h3⟩ := h.el k y hy
      refine ⟨c, h1, fun G hG => h2 G hG.app_right, fun q u hu => ?_⟩
      have hq : q < sz := by rw [← h1]; exact (List.getElem?_eq_some_iff.1 hu).1
      have hne : i * sz + j ≠ k * sz + q := by
        intro e
        rcases Nat.lt_or_gt_of_ne hk with h | h
        · have : (i + 1) * sz ≤ k * sz := Nat.mul_le_mul_right _ h
          rw [Nat.add_mul, Nat.one_mul] at this
          omega
        · have : (k + 1) * sz ≤ i * sz := Nat.mul_le_mul_right _ h
          rw [Nat.add_mul, Nat.one_mul] at this
          omega
      rw [List.getElem?_set_ne hne]
      exact h3 q u hu
theorem items_LR {Y : List (Nat × Row)} {l : List Item} {cs : List Value} (h : LR 11 TIt Y l cs) {G : Mem} (hG : Rd G Y) {b n c : Nat} (hr : ∀ (o : Nat) (u : Value), cs[o]? = some u → look G ⟨b, o, none⟩ = some u) (hn : n = l.length) (h63 : l.length ≤ 9223372036854775807) : RItems G (.slice (some ⟨b, 0, none⟩) n c) l := by
  subst hn
  refine .inl ⟨b, 0, c, rfl, h63, fun i x hx => ?_⟩
  obtain ⟨c', h1, h2, h3⟩ := h.el i x hx
  obtain ⟨g, rfl, hg⟩ := h2 G hG
  refine ⟨g, ?_, .inl hg⟩
  have := lookN_of (F := G) (a := ⟨b, 0 + i * 11, none⟩) (cs := x.cells g) (fun j v hv => by
    refine hr (0 + i * 11 + j) v ?_
    rw [Nat.zero_add]
    exact h3 j v hv)
  rwa [h1] at this
theorem put1 (cs : List Value) (k : Nat) (v : Value) (h : k < cs.length) : putL cs k [v] = cs.take k ++ v :: cs.drop (k + 1) := by
  show cs.set k v = _
  rw [List.set_eq_take_append_cons_drop, if_pos h]
theorem mix_set : ∀ i, i < 12 → mixL (i + 1) = (mixL i).set i (at_ shownL i) ∧ ((mixL i)[i]? = some (at_ fiveL i)) ∧ ((at_ fiveL i).kind = 1 → at_ shownL i = { at_ fiveL i with glyphs := [7] }) ∧ (¬ (at_ fiveL i).kind = 1 → mixL (i + 1) = mixL i) := by decide
theorem five_LR : LR 11 TIt [] fiveL (cellsI fiveL) := by
  refine ⟨by decide, fun v hv => ?_, fun i x hx => ?_⟩
  · obtain ⟨y, hy, hu⟩ := List.mem_flatten.1 hv
    obtain ⟨x, _, rfl⟩ := List.mem_map.1 hy
    exact Item.cells_plain x rfl v hu
  · refine ⟨x.cells (.slice none 0 0), rfl, fun G _ => ⟨_, rfl, .inr ⟨rfl, ?_⟩⟩, fun j v hv => ?_⟩
    · exact (by decide : ∀ y ∈ fiveL, y.glyphs = []) x (List.mem_of_getElem? hx)
    · have hj : j < 11 := by have := (List.getElem?_eq_some_iff.1 hv).1; rwa [Item.cells_len] at this
      unfold cellsI
      rw [flat_at (fun y hy => by
        obtain ⟨k, _, rfl⟩ := List.mem_map.1 hy
        exact Item.cells_len _ _) hj, List.getElem?_map, hx]
      exact hv
theorem shown_C (F : Mem) : C Try.prog 25 [] F (fun u Y => (∃ b n c, u = .slice (some ⟨b, 0, none⟩) n c ∧ n ≤ c) ∧ ∀ G, Rd G Y → RItems G u shownL) := by
  refine C.go hT Try.func25 Try.ntmps25 ?_
  refine sq ?_
  refine rg ?_
  refine st (h := O) ?_
  refine nl ?_
  refine sq ?_
  refine rg ?_
  refine clC (h := by exact fun ι hV hl => FiveR_C _) ?_
  intro u1 Y1 hQ1 hv1 hp1 hN1
  obtain ⟨b, c, rfl, rfl, hc1, hc2⟩ := hQ1
  have hp5 := hp1 _ List.mem_cons_self
  refine JL.adoptV (d := 3) (t := 500001) (v' := .slice (some ⟨500001, 0, some 0⟩) 12 c) rfl (fun ι h => by show Value.slice (some ⟨ι 500001, 0, none⟩) 12 c = _; rw [h]; rfl) hp5 rfl rfl rfl ?_
  rw [show F.add [] = F from rfl]
  refine st (h := O) ?_
  refine nl ?_
  iterate 2 (refine sq ?_)
  refine rg ?_
  refine st (h := O) ?_
  refine nl ?_
  refine bl ?_
  refine J.gloop2 (α := Nat) (β := List Value) (fun Y i cs => i ≤ 12 ∧ LR 11 TIt Y (mixL i) cs) (fun i cs => [(2, .int .i64 i)]) [(1, _)] (fun i cs => [(500001, { elem := 49, cs := cs, room := c * 11, fz := false, flat := true })]) [] (fun i cs => 12 - i) (0) (cellsI fiveL) (by exact ⟨rfl, trivial⟩) (by exact ⟨rfl, trivial⟩) (by exact ⟨rfl, rfl, trivial⟩) ?_ ?_
  · exact ⟨Nat.zero_le _, five_LR⟩
  ·intro Y i cs L1 K1 e1 e2 hI hY hN
   dsimp only [apV, apR, List.cons_append, List.nil_append] at e1 e2
   subst e1 e2
   obtain ⟨hi, hLR⟩ := hI
   iterate 2 (refine sq ?_)
   refine rg ?_
   iterate 4 (refine st (h := O) ?_)
   refine nl ?_
   refine cD (fun c0 => ?_) (fun c0 => ?_)
   ·have hil : i < 12 := by omega
    obtain ⟨hm1, hm2, hm3, hm4⟩ := mix_set i hil
    obtain ⟨ce, hce, hTT, hcs⟩ := hLR.el i _ hm2
    obtain ⟨g0, rfl, _⟩ := hTT _ hN.rows
    have hd : cs[0 + (i : Int).toNat * 11 + 0]? = some (.int .i64 (at_ fiveL i).kind) := by
      rw [Nat.zero_add]
      exact hcs 0 _ rfl
    refine sk ?_
    refine sq ?_
    refine bl ?_
    refine sq ?_
    refine rg ?_
    iterate 2 (refine st (h := O) ?_)
    refine st (h := (sdX (z := 11))) ?_
    refine st (h := sdFA) ?_
    refine st (h := sdL (v := .int .i64 (at_ fiveL i).kind) (hv := by exact hd)) ?_
    refine st (h := O) ?_
    refine nl ?_
    refine cD (fun c1 => ?_) (fun c1 => ?_)
    ·have hlt : 0 + (i : Int).toNat * 11 + 10 < cs.length := by
       have := hLR.len
       rw [show (mixL i).length = 12 from by simp [mixL, show shownL.length = 12 from rfl, show fiveL.length = 12 from rfl]; omega] at this
       omega
     refine rg ?_
     iterate 2 (refine st (h := O) ?_)
     refine sl ?_
     refine st (h := (sdX (z := 11))) ?_
     refine st (h := sdFA) ?_
     refine so (hle := by show 0 + (i : Int).toNat * 11 + 10 + 1 ≤ cs.length; rw [hLR.len, show (mixL i).length = 12 from by simp [mixL, show shownL.length = 12 from rfl, show fiveL.length = 12 from rfl]; omega]; omega) ?_
     refine JL.releaseC (A := 500001) (t := 18) (cs.take (0 + (i : Int).toNat * 11 + 10)) (cs.drop (0 + (i : Int).toNat * 11 + 10 + 1)) [(1, _), (2, _)] [] ?_ (hcs := by exact put1 _ _ _ hlt) (hp := by exact ivs_pl [7])
     intro g2 hpl hNw
     refine JL.flatU (u := 500001) [] ?_ (hp := fun v hv => ?_)
     rotate_left
     · rcases List.mem_append.1 hv with h | h
       · exact hLR.pl v (List.mem_of_mem_take h)
       · rcases List.mem_cons.1 h with rfl | h
         · rfl
         · exact hLR.pl v (List.mem_of_mem_drop h)
     refine nl ?_
     refine bk ?_
     refine rg ?_
     refine st (h := O) ?_
     refine st (h := sdA) ?_
     refine st (h := O) ?_
     refine nl ?_
     refine gbk2 (_) (i + 1) (_) (by exact ⟨rfl, trivial⟩) (by exact ⟨rfl, trivial⟩) (by exact ⟨rfl, rfl, trivial⟩) (by exact add_add _ _ _) ?_ ?_ ?_
     · exact PlainRows.app hY hpl
     · omega
     · refine ⟨by omega, ?_⟩
       rw [hm1, hm3 c1]
       rw [Nat.zero_add]
       refine put_LR (j := 10) (v := .slice (some ⟨g2, 0, none⟩) 1 1) (x' := { at_ fiveL i with glyphs := [7] }) hLR hm2 (by decide) rfl (fun c hc G hG => ?_)
       · obtain ⟨g3, rfl, _⟩ := hc _ hG.app_right
         exact ⟨_, rfl, Rd.ivsW hG List.mem_cons_self rfl rfl (show (1 : Nat) ≤ 9223372036854775807 from by decide)⟩
    ·refine sk ?_
     refine bk ?_
     refine rg ?_
     refine st (h := O) ?_
     refine st (h := sdA) ?_
     refine st (h := O) ?_
     refine nl ?_
     refine gbk2 (Y) (i + 1) (cs) (by exact ⟨rfl, trivial⟩) (by exact ⟨rfl, trivial⟩) (by exact ⟨rfl, rfl, trivial⟩) (by first | rfl | exact add_add _ _ _) ?_ ?_ ?_
     · assumption
     · omega
     · refine ⟨by omega, ?_⟩
       rw [hm4 c1]
       exact hLR
   ·obtain rfl : i = 12 := by omega
    refine ex ?_
    refine sq ?_
    refine rg ?_
    iterate 2 (refine st (h := O) ?_)
    refine nl ?_
    refine J.weak (L0 := [(0, _)]) (K0 := [(500001, _)]) (by exact ⟨rfl, trivial⟩) (by exact ⟨rfl, rfl, trivial⟩) ?_
    refine rtY (v := .slice (some ⟨500001, 0, some 0⟩) 12 c) hY fun ι hV => ⟨⟨ι 500001, 12, c, rfl, hc1⟩, fun G hG => ?_⟩
    refine items_LR (c := c) hLR (fun x hx => hG x (List.mem_append_right _ hx)) (fun o u hu => ?_) rfl (by decide)
    refine hG (ι 500001, Row.r ι { elem := 49, cs := cs, room := c * 11, fz := false, flat := true }) List.mem_cons_self o u ?_
    show (List.map (r1 ι) cs)[o]? = some u
    rw [map_r1_pl ι hLR.pl]
    exact hu
end Go.Proofs.Ytnkddjdmpnghmaa.Am
namespace Go.Proofs.Ytnkddjdmpnghmaa.Am
set_option linter.unusedSimpArgs false
set_option linter.unusedVariables false
set_option maxRecDepth 100000
set_option maxHeartbeats 4000000
open Go Go.RowKit
theorem set_wakes : (setD shownL [3, 7, 11] 26 0).2 = 0 ∧ (setD shownL [3, 7, 11] 26 0).1.length = 3 ∧ ((setD shownL [3, 7, 11] 26 0).1[0]?).map (fun x => (x.width, x.pieces.length, (x.pieces[1]?).map Pc.x)) = some (26, 2, some 16) := by decide +kernel
theorem glu_wakes : gluT shownL (-1) 3 20 0 = ([3], true) := by decide +kernel
theorem ints_RIx {F : Mem} {a : Option Addr} {xs : List Int} {n c : Nat} (h : RIx F a xs) (hp : 0 < xs.length) (hn : n = xs.length) : RInts F (.slice a n c) xs := by
  subst hn
  obtain ⟨b, o, rfl, hr⟩ := h.rd hp
  exact .inl ⟨b, o, c, rfl, h.h63, hr⟩
theorem wakes25_C (F : Mem) : C0 Try.prog 10 [] F (.bool true) := by
  obtain ⟨hw1, hw2, hw3⟩ := set_wakes
  generalize hsd : setD shownL [3, 7, 11] 26 0 = sd at hw1 hw2 hw3
  have hgS : ∀ x ∈ shownL, x.glyphs.length * 8 ≤ 140737488355328 := by decide
  refine C.go hT Try.func10 Try.ntmps10 ?_
  refine sq ?_
  refine rg ?_
  refine st (h := O) ?_
  refine nl ?_
  refine sq ?_
  refine rg ?_
  refine clC (h := by exact fun ι hV hl => shown_C _) ?_
  intro u1 Y1 hQ1 hv1 hp1 hN1
  obtain ⟨⟨sb, sn, sc, rfl, hsc⟩, hS1⟩ := hQ1
  have hS1' := hS1 _ hN1.rows
  refine sl ?_
  refine clC (h := by exact fun ι hV hl => hsd ▸ Set_C _ _ _ _ shownL [3, 7, 11] 26 0 (hS1'.le hl) (hV.intsX (t := 7) rfl rfl (by decide)) (fun a n c e => by cases e; exact hsc) hgS (by decide)) ?_
  intro u2 Y2 hQ2 hv2 hp2 hN2
  obtain ⟨lv, rfl, hlv, hR2⟩ := hQ2
  have hL2 := hR2 _ hN2.rows
  rcases hL2 with ⟨lb, lo, lc, rfl, _, _, hLr⟩ | ⟨_, hnil⟩
  rotate_left
  · rw [hnil] at hw2
    cases hw2
  obtain ⟨x0, hx0⟩ : ∃ x0, sd.1[0]? = some x0 := ⟨_, List.getElem?_eq_getElem (by omega)⟩
  rw [hx0] at hw3
  simp only [Option.map_some, Option.some.injEq, Prod.mk.injEq] at hw3
  obtain ⟨hxw, hxn, hxp⟩ := hw3
  obtain ⟨cs0, hc0, pv, rfl, hpv⟩ := hLr 0 x0 hx0
  rcases hpv with ⟨pb, po, pc, rfl, _, _, hPr⟩ | ⟨_, hnil⟩
  rotate_left
  · rw [hnil] at hxn
    cases hxn
  obtain ⟨p1, hp1'⟩ : ∃ p1, x0.pieces[1]? = some p1 := ⟨_, List.getElem?_eq_getElem (by omega)⟩
  rw [hp1'] at hxp
  simp only [Option.map_some, Option.some.injEq] at hxp
  obtain ⟨cs1, hc1, pg, rfl, _⟩ := hPr 1 p1 hp1'
  rw [hxn] at hc0
  rw [hw1, hw2] at hv2
  rw [hw1, hw2]
  have k2 := lookN_at hc0 2 (v := .slice (some ⟨pb, po, none⟩) 2 pc) rfl
  have k0 := lookN_at hc0 0 (v := .int .i64 26) (by rw [← hxw]; rfl)
  have k1 := lookN_at hc1 0 (v := .int .i64 16) (by rw [← hxp]; rfl)
  iterate 5 (refine st (h := O) ?_)
  refine nl ?_
  refine sq ?_
  refine rg ?_
  refine clC (h := by exact fun ι hV hl => shown_C _) ?_
  intro u3 Y3 hQ3 hv3 hp3 hN3
  obtain ⟨⟨tb, tn, tc, rfl, htc⟩, hS3⟩ := hQ3
  have hS3' := hS3 _ hN3.rows
  refine clC (h := by exact fun ι hV hl => glu_wakes ▸ Glue_C _ _ shownL (-1) 3 20 0 (hS3'.le hl) (fun a n c e => by cases e; exact htc)) ?_
  intro u4 Y4 hQ4 hv4 hp4 hN4
  obtain ⟨ga, gc, rfl, hR4⟩ := hQ4
  have hx4 := hR4 _ hN4.rows
  obtain ⟨gb, go, rfl, hgr⟩ := hx4.rd (by decide)
  have k2 := hN4.le _ _ (hN3.le _ _ k2)
  have k0 := hN4.le _ _ (hN3.le _ _ k0)
  have k1 := hN4.le _ _ (hN3.le _ _ k1)
  simp only [addA] at k0 k1 k2
  iterate 5 (refine st (h := O) ?_)
  refine nl ?_
  refine sq ?_
  refine rg ?_
  iterate 3 (refine st (h := O) ?_)
  refine gD (fun g18 => ?_) (fun g18 => ?_)
  ·refine sg (h := O) ?_
   iterate 2 (refine sg (h := O) ?_)
   iterate 2 (refine st (h := O) ?_)
   refine gD (fun g23 => ?_) (fun g23 => ?_)
   ·refine sg (h := O) ?_
    refine sg (h := (sdX (z := 3))) ?_
    refine sg (h := sdFA) ?_
    refine sg (h := sdL) ?_
    iterate 2 (refine sg (h := O) ?_)
    iterate 2 (refine st (h := O) ?_)
    refine gD (fun g31 => ?_) (fun g31 => ?_)
    ·refine sg (h := O) ?_
     refine sg (h := (sdX (z := 3))) ?_
     refine sg (h := sdFA) ?_
     refine sg (h := sdL) ?_
     refine sg (h := (sdX (z := 7))) ?_
     refine sg (h := sdFA) ?_
     refine sg (h := (by first | exact sdLG | exact sdW)) ?_
     refine sg (h := O) ?_
     iterate 2 (refine st (h := O) ?_)
     refine gD (fun g41 => ?_) (fun g41 => ?_)
     ·refine sg (h := O) ?_
      refine sg (h := (sdX (z := 3))) ?_
      refine sg (h := sdFA) ?_
      refine sg (h := (by first | exact sdLG | exact sdW)) ?_
      refine sg (h := O) ?_
      iterate 2 (refine st (h := O) ?_)
      refine gD (fun g48 => ?_) (fun g48 => ?_)
      ·refine sg (h := O) ?_
       iterate 2 (refine st (h := O) ?_)
       refine gB (fun g51 => ?_) (fun g51 => ?_)
       ·refine sg (h := O) ?_
        refine slg ?_
        refine clg (h := by exact fun ι hV hl => Same_C _ _ _ [3] [3] ((ints_RIx hx4 (by decide) rfl).le hl) (hV.ints (t := 53) rfl rfl rfl (by decide))) ?_
        iterate 2 (refine st (h := O) ?_)
        refine nl ?_
        repeat refine J.dropF ?_
        first
          | exact rt ⟨rfl, rfl⟩
          | (exfalso; simp at *; done)
       ·refine sp ?_
        iterate 2 (refine sp ?_)
        iterate 2 (refine st (h := O) ?_)
        refine nl ?_
        repeat refine J.dropF ?_
        first
          | exact rt ⟨rfl, rfl⟩
          | (exfalso; simp at *; done)
      ·refine sp ?_
       iterate 2 (refine st (h := O) ?_)
       iterate 3 (refine sp ?_)
       iterate 2 (refine st (h := O) ?_)
       refine nl ?_
       repeat refine J.dropF ?_
       first
         | exact rt ⟨rfl, rfl⟩
         | (exfalso; simp at *; done)
     ·refine sp ?_
      iterate 4 (refine sp ?_)
      iterate 2 (refine st (h := O) ?_)
      refine sp ?_
      iterate 2 (refine st (h := O) ?_)
      iterate 3 (refine sp ?_)
      iterate 2 (refine st (h := O) ?_)
      refine nl ?_
      repeat refine J.dropF ?_
      first
        | exact rt ⟨rfl, rfl⟩
        | (exfalso; simp at *; done)
    ·refine sp ?_
     iterate 7 (refine sp ?_)
     iterate 2 (refine st (h := O) ?_)
     iterate 5 (refine sp ?_)
     iterate 2 (refine st (h := O) ?_)
     refine sp ?_
     iterate 2 (refine st (h := O) ?_)
     iterate 3 (refine sp ?_)
     iterate 2 (refine st (h := O) ?_)
     refine nl ?_
     repeat refine J.dropF ?_
     first
       | exact rt ⟨rfl, rfl⟩
       | (exfalso; simp at *; done)
   ·refine sp ?_
    iterate 5 (refine sp ?_)
    iterate 2 (refine st (h := O) ?_)
    iterate 8 (refine sp ?_)
    iterate 2 (refine st (h := O) ?_)
    iterate 5 (refine sp ?_)
    iterate 2 (refine st (h := O) ?_)
    refine sp ?_
    iterate 2 (refine st (h := O) ?_)
    iterate 3 (refine sp ?_)
    iterate 2 (refine st (h := O) ?_)
    refine nl ?_
    repeat refine J.dropF ?_
    first
      | exact rt ⟨rfl, rfl⟩
      | (exfalso; simp at *; done)
  ·refine sp ?_
   iterate 2 (refine sp ?_)
   iterate 2 (refine st (h := O) ?_)
   iterate 6 (refine sp ?_)
   iterate 2 (refine st (h := O) ?_)
   iterate 8 (refine sp ?_)
   iterate 2 (refine st (h := O) ?_)
   iterate 5 (refine sp ?_)
   iterate 2 (refine st (h := O) ?_)
   refine sp ?_
   iterate 2 (refine st (h := O) ?_)
   iterate 3 (refine sp ?_)
   iterate 2 (refine st (h := O) ?_)
   refine nl ?_
   repeat refine J.dropF ?_
   first
     | exact rt ⟨rfl, rfl⟩
     | (exfalso; simp at *; done)
end Go.Proofs.Ytnkddjdmpnghmaa.Am
namespace Go.Proofs.Ytnkddjdmpnghmaa.Am
set_option linter.unusedSimpArgs false
set_option linter.unusedVariables false
set_option maxRecDepth 100000
set_option maxHeartbeats 4000000
open Go Go.RowKit
theorem CopyC_C (F : Mem) (v : Value) (l : List Item) (hv : RItems F v l) (hl3 : l.length ≤ 3000) (hgl : ∀ x ∈ l, x.glyphs.length * 8 ≤ 140737488355328) : C Try.prog 11 [v] F (fun u Y => SlV u ∧ (∀ a n c, u = .slice (some a) n c → n ≤ c) ∧ ∀ G, Rd G Y → RItems G u l) := by
  rcases hv.cases with ⟨vb, vo, vc, rfl, _, hr⟩ | ⟨rfl, rfl⟩
  ·
    refine C.go hT Try.func11 Try.ntmps11 ?_
    refine sq ?_
    refine rg ?_
    refine st (h := O) ?_
    refine nl ?_
    refine sq ?_
    refine rg ?_
    refine st (h := O) ?_
    refine nl ?_
    iterate 2 (refine sq ?_)
    refine rg ?_
    refine st (h := O) ?_
    refine nl ?_
    refine bl ?_
    refine J.gloop4 (α := Option Nat) (β := Nat) (γ := Nat) (δ := List Value) (fun Y o m k cs => k ≤ l.length ∧ m = k ∧ apB o m ∧ cs.length = m * 11 ∧ ∃ gs, gs.length = k ∧ cs = (cellsG l gs).flatten ∧ CpR l Y gs) (fun o m k cs => [(3, apV 24 o m), (4, .int .i64 k)]) [(0, _)] (fun o m k cs => apR 24 49 11 true o cs ++ []) [] (fun o m k cs => l.length - k) (none) (0) (0) ([]) (by exact ⟨rfl, rfl, trivial⟩) (by exact ⟨rfl, trivial⟩) (by exact (by repeat' first | exact trivial | refine And.intro rfl ?_)) ?_ ?_
    · exact ⟨by omega, rfl, rfl, rfl, [], rfl, rfl, fun i g h => by simp at h⟩
    ·intro Y o m k cs L1 K1 e1 e2 hI hY hN
     rcases o with _ | cap_o
     all_goals
      dsimp only [apV, apR, List.cons_append, List.nil_append] at e1 e2
      subst e1 e2
      obtain ⟨hk, hmk, hap, hcl, gs, hgs, hcs, hcp⟩ := hI
      simp only [apB] at hap
      try (obtain rfl : m = 0 := hap; obtain rfl : cs = [] := List.eq_nil_of_length_eq_zero (by omega))
      iterate 2 (refine sq ?_)
      refine rg ?_
      iterate 4 (refine st (h := O) ?_)
      refine nl ?_
      refine cD (fun c0 => ?_) (fun c0 => ?_)
      ·have hkl : k < l.length := by omega
       obtain ⟨r0, r1, r2, r3, r4, r5, g, hg2, hri⟩ := hr k hkl
       have hN2 : ∀ K, rdN (F.add Y) K ⟨vb, vo + (k : Int).toNat * 11, none⟩ 11 = some ((at_ l k).cells g) := fun K => by
         obtain ⟨_, hh⟩ := lookN_spec hg2
         exact lookN_of (F := F.add Y) (cs := (at_ l k).cells g) (fun j u hu => hN.le _ _ (hh j u hu))
       have hgb := hgl _ (List.mem_of_getElem? (at_get hkl))
       generalize hx : at_ l k = x at *
       rcases hri with (⟨gb, go, gc, rfl, hg63, hgr⟩ | ⟨rfl, hge⟩) | ⟨gb, go, gsp, rfl, hge⟩
       rcases Nat.eq_zero_or_pos x.glyphs.length with hz | hz
       · have hz0 : x.glyphs = [] := List.eq_nil_of_length_eq_zero hz
         rw [hz] at hg2 hN2
         refine sk ?_
         refine sq ?_
         refine bl ?_
         refine sq ?_
         refine rg ?_
         iterate 2 (refine st (h := O) ?_)
         refine st (h := (sdX (z := 11))) ?_
         refine st (h := sdLN (hv := hN2 _)) ?_
         refine al ?_
         refine so ?_
         refine nl ?_
         refine sq ?_
         refine rg ?_
         refine sl ?_
         refine st (h := sdFA) ?_
         refine st (h := sdL) ?_
         first
           | (refine ap0 ?_)
           | (refine apO (m := x.glyphs.length) (news := ivs x.glyphs) 1019 16 [(0, _), (3, _), (4, _), (5, _)] [(5, _), (24, _)] ?_ (happ := App.slice (hap2 _) hone (by simp [ivs])) (hnn := hntt _) (hru := by simp only [List.nil_append, Bool.or_eq_true]; exact .inr (hntt _)) (hflat := fun h => by cases h); intro cap19 hc19 hd19)
           | (refine apO (m := x.glyphs.length) (news := ivs x.glyphs) 1019 16 [(0, _), (3, _), (4, _), (5, _)] [(5, _)] ?_ (happ := App.slice (hap2 _) hone (by simp [ivs])) (hnn := hntt _) (hru := by simp only [List.nil_append, Bool.or_eq_true]; exact .inr (hntt _)) (hflat := fun h => by cases h); intro cap19 hc19 hd19)
         first
           | refine JL.release (d := 19) (t := 16) [(0, _), (3, _), (4, _), (5, _)] [(5, _), (24, _)] ?_ (hfl := by first | rfl | exact hpla)
           | refine JL.release (d := 19) (t := 16) [(0, _), (3, _), (4, _), (5, _)] [(5, _)] ?_ (hfl := by first | rfl | exact hpla)
         intro g2 hpl hNw
         refine st (h := sdFA) ?_
         refine so ?_
         refine nl ?_
         refine rg ?_
         refine st (h := O) ?_
         refine st (h := sdLN) ?_
         refine sl ?_
         first | refine apN (news := [_, _, _, _, _, _, _, _, _, _, _]) 24 true [(0, _), (4, _)] [(5, _)] ?_ | refine apO (news := [_, _, _, _, _, _, _, _, _, _, _]) 1024 24 [(0, _), (4, _)] [(5, _)] ?_
         intro cap24 hc24 hd24
         refine st (h := O) ?_
         refine nl ?_
         refine bk ?_
         refine rg ?_
         refine st (h := O) ?_
         refine st (h := sdA) ?_
         refine st (h := O) ?_
         refine nl ?_
         refine gbk4 (_) (some _) (_) (k + 1) (_) (by exact ⟨rfl, rfl, trivial⟩) (by exact ⟨rfl, trivial⟩) (by exact (by repeat' first | exact trivial | refine And.intro rfl ?_)) (by exact add_add _ _ _) ?_ ?_ ?_
         · exact hY.app hpl
         · omega
         · refine ⟨by omega, by omega, ⟨by omega, by omega⟩, by first | (simp only [List.length_append, hcl, List.length_cons, List.length_nil]; omega) | rfl, CpR.step hgs hcs hcp hkl hx rfl rfl fun G hG => ?_⟩
           first
             | (rw [hz0]; exact .inl ⟨g2, 0, _, rfl, by simp, fun i y h => by simp at h⟩)
             | (rw [hge]; exact .inl ⟨g2, 0, _, rfl, by simp, fun i y h => by simp at h⟩)
             | exact Rd.ivsW hG List.mem_cons_self rfl (by omega) hg63
       · have hap2 : ∀ K, rdN (F.add Y) K ⟨gb, go, none⟩ (x.glyphs.length * 1) = some (ivs x.glyphs) := fun K => by
           rw [Nat.mul_one]
           exact lookN_ints (fun i y hy => hN.le _ _ (hgr i y hy))
         have hone : ∀ v ∈ ivs x.glyphs, v.oneCell' = true := fun v hv => by obtain ⟨y, _, rfl⟩ := List.mem_map.1 hv; rfl
         have hpla : (ivs x.glyphs).all plain1 = true := List.all_eq_true.2 fun v hv => by obtain ⟨y, _, rfl⟩ := List.mem_map.1 hv; rfl
         have hntt : ∀ t, (ivs x.glyphs).all (nt1 t) = true := fun t => List.all_eq_true.2 fun v hv => by obtain ⟨y, _, rfl⟩ := List.mem_map.1 hv; rfl
         refine sk ?_
         refine sq ?_
         refine bl ?_
         refine sq ?_
         refine rg ?_
         iterate 2 (refine st (h := O) ?_)
         refine st (h := (sdX (z := 11))) ?_
         refine st (h := sdLN (hv := hN2 _)) ?_
         refine al ?_
         refine so ?_
         refine nl ?_
         refine sq ?_
         refine rg ?_
         refine sl ?_
         refine st (h := sdFA) ?_
         refine st (h := sdL) ?_
         first
           | (refine ap0 ?_)
           | (refine apO (m := x.glyphs.length) (news := ivs x.glyphs) 1019 16 [(0, _), (3, _), (4, _), (5, _)] [(5, _), (24, _)] ?_ (happ := App.slice (hap2 _) hone (by simp [ivs])) (hnn := hntt _) (hru := by simp only [List.nil_append, Bool.or_eq_true]; exact .inr (hntt _)) (hflat := fun h => by cases h); intro cap19 hc19 hd19)
           | (refine apO (m := x.glyphs.length) (news := ivs x.glyphs) 1019 16 [(0, _), (3, _), (4, _), (5, _)] [(5, _)] ?_ (happ := App.slice (hap2 _) hone (by simp [ivs])) (hnn := hntt _) (hru := by simp only [List.nil_append, Bool.or_eq_true]; exact .inr (hntt _)) (hflat := fun h => by cases h); intro cap19 hc19 hd19)
         first
           | refine JL.release (d := 19) (t := 16) [(0, _), (3, _), (4, _), (5, _)] [(5, _), (24, _)] ?_ (hfl := by first | rfl | exact hpla)
           | refine JL.release (d := 19) (t := 16) [(0, _), (3, _), (4, _), (5, _)] [(5, _)] ?_ (hfl := by first | rfl | exact hpla)
         intro g2 hpl hNw
         refine st (h := sdFA) ?_
         refine so ?_
         refine nl ?_
         refine rg ?_
         refine st (h := O) ?_
         refine st (h := sdLN) ?_
         refine sl ?_
         first | refine apN (news := [_, _, _, _, _, _, _, _, _, _, _]) 24 true [(0, _), (4, _)] [(5, _)] ?_ | refine apO (news := [_, _, _, _, _, _, _, _, _, _, _]) 1024 24 [(0, _), (4, _)] [(5, _)] ?_
         intro cap24 hc24 hd24
         refine st (h := O) ?_
         refine nl ?_
         refine bk ?_
         refine rg ?_
         refine st (h := O) ?_
         refine st (h := sdA) ?_
         refine st (h := O) ?_
         refine nl ?_
         refine gbk4 (_) (some _) (_) (k + 1) (_) (by exact ⟨rfl, rfl, trivial⟩) (by exact ⟨rfl, trivial⟩) (by exact (by repeat' first | exact trivial | refine And.intro rfl ?_)) (by exact add_add _ _ _) ?_ ?_ ?_
         · exact hY.app hpl
         · omega
         · refine ⟨by omega, by omega, ⟨by omega, by omega⟩, by first | (simp only [List.length_append, hcl, List.length_cons, List.length_nil]; omega) | rfl, CpR.step hgs hcs hcp hkl hx rfl rfl fun G hG => ?_⟩
           first
             | (rw [hz0]; exact .inl ⟨g2, 0, _, rfl, by simp, fun i y h => by simp at h⟩)
             | (rw [hge]; exact .inl ⟨g2, 0, _, rfl, by simp, fun i y h => by simp at h⟩)
             | exact Rd.ivsW hG List.mem_cons_self rfl (by omega) hg63
       ·
        refine sk ?_
        refine sq ?_
        refine bl ?_
        refine sq ?_
        refine rg ?_
        iterate 2 (refine st (h := O) ?_)
        refine st (h := (sdX (z := 11))) ?_
        refine st (h := sdLN (hv := hN2 _)) ?_
        refine al ?_
        refine so ?_
        refine nl ?_
        refine sq ?_
        refine rg ?_
        refine sl ?_
        refine st (h := sdFA) ?_
        refine st (h := sdL) ?_
        first
          | (refine ap0 ?_)
          | (refine apO (m := x.glyphs.length) (news := ivs x.glyphs) 1019 16 [(0, _), (3, _), (4, _), (5, _)] [(5, _), (24, _)] ?_ (happ := App.slice (hap2 _) hone (by simp [ivs])) (hnn := hntt _) (hru := by simp only [List.nil_append, Bool.or_eq_true]; exact .inr (hntt _)) (hflat := fun h => by cases h); intro cap19 hc19 hd19)
          | (refine apO (m := x.glyphs.length) (news := ivs x.glyphs) 1019 16 [(0, _), (3, _), (4, _), (5, _)] [(5, _)] ?_ (happ := App.slice (hap2 _) hone (by simp [ivs])) (hnn := hntt _) (hru := by simp only [List.nil_append, Bool.or_eq_true]; exact .inr (hntt _)) (hflat := fun h => by cases h); intro cap19 hc19 hd19)
        first
          | refine JL.release (d := 19) (t := 16) [(0, _), (3, _), (4, _), (5, _)] [(5, _), (24, _)] ?_ (hfl := by first | rfl | exact hpla)
          | refine JL.release (d := 19) (t := 16) [(0, _), (3, _), (4, _), (5, _)] [(5, _)] ?_ (hfl := by first | rfl | exact hpla)
        intro g2 hpl hNw
        refine st (h := sdFA) ?_
        refine so ?_
        refine nl ?_
        refine rg ?_
        refine st (h := O) ?_
        refine st (h := sdLN) ?_
        refine sl ?_
        first | refine apN (news := [_, _, _, _, _, _, _, _, _, _, _]) 24 true [(0, _), (4, _)] [(5, _)] ?_ | refine apO (news := [_, _, _, _, _, _, _, _, _, _, _]) 1024 24 [(0, _), (4, _)] [(5, _)] ?_
        intro cap24 hc24 hd24
        refine st (h := O) ?_
        refine nl ?_
        refine bk ?_
        refine rg ?_
        refine st (h := O) ?_
        refine st (h := sdA) ?_
        refine st (h := O) ?_
        refine nl ?_
        refine gbk4 (_) (some _) (_) (k + 1) (_) (by exact ⟨rfl, rfl, trivial⟩) (by exact ⟨rfl, trivial⟩) (by exact (by repeat' first | exact trivial | refine And.intro rfl ?_)) (by exact add_add _ _ _) ?_ ?_ ?_
        · exact hY.app hpl
        · omega
        · refine ⟨by omega, by omega, ⟨by omega, by omega⟩, by first | (simp only [List.length_append, hcl, List.length_cons, List.length_nil]; omega) | rfl, CpR.step hgs hcs hcp hkl hx rfl rfl fun G hG => ?_⟩
          first
            | (rw [hz0]; exact .inl ⟨g2, 0, _, rfl, by simp, fun i y h => by simp at h⟩)
            | (rw [hge]; exact .inl ⟨g2, 0, _, rfl, by simp, fun i y h => by simp at h⟩)
            | exact Rd.ivsW hG List.mem_cons_self rfl (by omega) hg63
       ·
        refine sk ?_
        refine sq ?_
        refine bl ?_
        refine sq ?_
        refine rg ?_
        iterate 2 (refine st (h := O) ?_)
        refine st (h := (sdX (z := 11))) ?_
        refine st (h := sdLN (hv := hN2 _)) ?_
        refine al ?_
        refine so ?_
        refine nl ?_
        refine sq ?_
        refine rg ?_
        refine sl ?_
        refine st (h := sdFA) ?_
        refine st (h := sdL) ?_
        first
          | (refine ap0 ?_)
          | (refine apO (m := x.glyphs.length) (news := ivs x.glyphs) 1019 16 [(0, _), (3, _), (4, _), (5, _)] [(5, _), (24, _)] ?_ (happ := App.slice (hap2 _) hone (by simp [ivs])) (hnn := hntt _) (hru := by simp only [List.nil_append, Bool.or_eq_true]; exact .inr (hntt _)) (hflat := fun h => by cases h); intro cap19 hc19 hd19)
          | (refine apO (m := x.glyphs.length) (news := ivs x.glyphs) 1019 16 [(0, _), (3, _), (4, _), (5, _)] [(5, _)] ?_ (happ := App.slice (hap2 _) hone (by simp [ivs])) (hnn := hntt _) (hru := by simp only [List.nil_append, Bool.or_eq_true]; exact .inr (hntt _)) (hflat := fun h => by cases h); intro cap19 hc19 hd19)
        first
          | refine JL.release (d := 19) (t := 16) [(0, _), (3, _), (4, _), (5, _)] [(5, _), (24, _)] ?_ (hfl := by first | rfl | exact hpla)
          | refine JL.release (d := 19) (t := 16) [(0, _), (3, _), (4, _), (5, _)] [(5, _)] ?_ (hfl := by first | rfl | exact hpla)
        intro g2 hpl hNw
        refine st (h := sdFA) ?_
        refine so ?_
        refine nl ?_
        refine rg ?_
        refine st (h := O) ?_
        refine st (h := sdLN) ?_
        refine sl ?_
        first | refine apN (news := [_, _, _, _, _, _, _, _, _, _, _]) 24 true [(0, _), (4, _)] [(5, _)] ?_ | refine apO (news := [_, _, _, _, _, _, _, _, _, _, _]) 1024 24 [(0, _), (4, _)] [(5, _)] ?_
        intro cap24 hc24 hd24
        refine st (h := O) ?_
        refine nl ?_
        refine bk ?_
        refine rg ?_
        refine st (h := O) ?_
        refine st (h := sdA) ?_
        refine st (h := O) ?_
        refine nl ?_
        refine gbk4 (_) (some _) (_) (k + 1) (_) (by exact ⟨rfl, rfl, trivial⟩) (by exact ⟨rfl, trivial⟩) (by exact (by repeat' first | exact trivial | refine And.intro rfl ?_)) (by exact add_add _ _ _) ?_ ?_ ?_
        · exact hY.app hpl
        · omega
        · refine ⟨by omega, by omega, ⟨by omega, by omega⟩, by first | (simp only [List.length_append, hcl, List.length_cons, List.length_nil]; omega) | rfl, CpR.step hgs hcs hcp hkl hx rfl rfl fun G hG => ?_⟩
          first
            | (rw [hz0]; exact .inl ⟨g2, 0, _, rfl, by simp, fun i y h => by simp at h⟩)
            | (rw [hge]; exact .inl ⟨g2, 0, _, rfl, by simp, fun i y h => by simp at h⟩)
            | exact Rd.ivsW hG List.mem_cons_self rfl (by omega) hg63
      ·obtain rfl : k = l.length := by omega
       refine ex ?_
       refine sq ?_
       refine rg ?_
       iterate 2 (refine st (h := O) ?_)
       refine nl ?_
       refine rtY hY fun ι hV => ⟨?_, ?_, fun G hG => ?_⟩
       · first | exact .inr ⟨0, 0, rfl⟩ | exact .inl ⟨_, _, _, _, rfl⟩
       · intro a n c e
         cases e
         all_goals omega
       · first
           | (exfalso; omega)
           | exact .inr ⟨rfl, List.eq_nil_of_length_eq_zero (by omega)⟩
           | (rw [show m = l.length from hmk]; exact Copied (r := Row.r ι { elem := 49, cs := cs, room := cap_o * 11, fz := false, flat := true }) hcp (by omega) (by show cs.map (r1 ι) = _; rw [cs_c hcp hcs ι]; exact hcs) (fun x hx => hG x (by simpa using hx)) (by omega))
  ·
    refine C.go hT Try.func11 Try.ntmps11 ?_
    refine sq ?_
    refine rg ?_
    refine st (h := O) ?_
    refine nl ?_
    refine sq ?_
    refine rg ?_
    refine st (h := O) ?_
    refine nl ?_
    iterate 2 (refine sq ?_)
    refine rg ?_
    refine st (h := O) ?_
    refine nl ?_
    refine bl ?_
    refine J.loop1 (α := Nat) (fun k => k = 0) (fun k => [(3, .slice none 0 0), (4, .int .i64 k)]) [(0, _)] (fun k => []) [] (fun k => 0) (0) (by exact ⟨rfl, rfl, trivial⟩) (by exact ⟨rfl, trivial⟩) (by exact trivial) ?_ ?_
    · rfl
    ·intro k L1 K1 e1 e2 hI
     dsimp only [apV, apR, List.cons_append, List.nil_append] at e1 e2
     subst e1 e2
     subst hI
     iterate 2 (refine sq ?_)
     refine rg ?_
     iterate 4 (refine st (h := O) ?_)
     refine nl ?_
     refine cD (fun c0 => ?_) (fun c0 => ?_)
     ·exact absurd c0 (by decide)
     ·refine ex ?_
      refine sq ?_
      refine rg ?_
      iterate 2 (refine st (h := O) ?_)
      refine nl ?_
      exact rt ⟨.inr ⟨0, 0, rfl⟩, (fun a n c e => by cases e), fun G _ => .inr ⟨rfl, rfl⟩⟩
end Go.Proofs.Ytnkddjdmpnghmaa.Am
namespace Go.Proofs.Ytnkddjdmpnghmaa.Am
set_option linter.unusedSimpArgs false
set_option linter.unusedVariables false
set_option maxRecDepth 100000
set_option maxHeartbeats 4000000
open Go Go.RowKit
/-- items in a struct's cell: of none, the address may be any -/
def RItN (F : Mem) (v : Value) (l : List Item) : Prop := RItems F v l ∨ ∃ b o s, v = .slice (some ⟨b, o, some (s + 1)⟩) 0 0 ∧ l = []
theorem RItN.le {F F' : Mem} {v : Value} {l : List Item} (h : RItN F v l) (hl : F.le F') : RItN F' v l := h.imp (·.le hl) id
theorem RItN.opl {F : Mem} {v : Value} {l : List Item} (h : RItN F v l) : ∃ a c, PlA a ∧ v = .slice a l.length c := by
  rcases h with h | ⟨b, o, s, rfl, rfl⟩
  · exact h.opl
  · exact ⟨_, 0, .inr (.inr ⟨b, o, s, rfl⟩), rfl⟩
/-- what the statements are asked of -/
structure Ask where
  l : List Item
  ats : List Int
  w : Int
  ag : Int
def Ask.v (x : Ask) (la : Option Addr) (lc : Nat) (aa : Option Addr) (ac : Nat) : Value := .agg ⟨[.slice la x.l.length lc, .slice aa x.ats.length ac, .int .i64 x.w, .int .i64 x.ag]⟩
theorem Ask.pl (x : Ask) {la aa : Option Addr} (h1 : PlA la) (h2 : PlA aa) (lc ac : Nat) : ∀ v ∈ ([.slice la x.l.length lc, .slice aa x.ats.length ac, .int .i64 x.w, .int .i64 x.ag] : List Value), plain1 v = true := by
  intro v hv
  simp only [List.mem_cons, List.not_mem_nil, or_false] at hv
  rcases hv with rfl | rfl | rfl | rfl
  · exact h1.pl _ _
  · exact h2.pl _ _
  · rfl
  · rfl
theorem Ask.rV (x : Ask) {la aa : Option Addr} (h1 : PlA la) (h2 : PlA aa) (lc ac : Nat) (ι : Nat → Nat) : rV ι (x.v la lc aa ac) = x.v la lc aa ac := by
  show Value.agg ⟨List.map (r1 ι) _⟩ = _
  rw [map_r1_pl ι (x.pl h1 h2 lc ac)]
  rfl
end Go.Proofs.Ytnkddjdmpnghmaa.Am
namespace Go.Proofs.Ytnkddjdmpnghmaa.Am
set_option linter.unusedSimpArgs false
set_option linter.unusedVariables false
set_option maxRecDepth 100000
set_option maxHeartbeats 4000000
open Go Go.RowKit
end Go.Proofs.Ytnkddjdmpnghmaa.Am
namespace Go.Proofs.Ytnkddjdmpnghmaa.Am
set_option linter.unusedSimpArgs false
set_option linter.unusedVariables false
set_option maxRecDepth 100000
set_option maxHeartbeats 4000000
open Go Go.RowKit
end Go.Proofs.Ytnkddjdmpnghmaa.Am
namespace Go.Proofs.Ytnkddjdmpnghmaa.Am
set_option linter.unusedSimpArgs false
set_option linter.unusedVariables false
open Go Go.RowKit
section
variable {H : Type} {enc : TypeId × Value → H} {P : Program} {W : World}
theorem cell_lt {a : Addr} {u : Value} (h : W.cell? a = some u) : a.block < W.heap.size ∧ a.spot = none := by
  unfold World.cell? at h
  split at h
  · rename_i c e f hb
    split at h
    · simp at h
    · rename_i hs
      refine ⟨(Array.getElem?_eq_some_iff.1 hb).1, ?_⟩
      simpa using hs
  · simp at h
theorem look_w {a : Addr} {u : Value} (h : W.cell? a = some u) (hp : plain1 (e1 u) = true) : look ⟨W, []⟩ a = some (e1 u) := by
  have := (cell_lt h).1
  simp only [look, this, if_true, h, Option.map_some, Option.bind_some, hp]
theorem pick_list {β : Type} {Q : Nat → β → Prop} : ∀ (n : Nat), (∀ i, i < n → ∃ x, Q i x) → ∃ xs : List β, xs.length = n ∧ ∀ i x, xs[i]? = some x → Q i x := by
  intro n
  induction n with
  | zero => intro _; exact ⟨[], rfl, fun i x h => by simp at h⟩
  | succ n ih =>
    intro h
    obtain ⟨xs, hl, hx⟩ := ih (fun i hi => h i (by omega))
    obtain ⟨x, hq⟩ := h n (by omega)
    refine ⟨xs ++ [x], by simp [hl], fun i y hy => ?_⟩
    by_cases hi : i < n
    · rw [List.getElem?_append_left (by omega)] at hy; exact hx i y hy
    · have hi2 : i < n + 1 := by have := (List.getElem?_eq_some_iff.1 hy).1; simp [hl] at this; omega
      have e : i = n := by omega
      subst e
      rw [List.getElem?_append_right (by omega), hl] at hy
      simp at hy
      rw [← hy]; exact hq
theorem okWide_spot {t e : TypeId} {r : Reach} {base : Nat} {v : Value} (ht : P.underlying t = some (.slice e)) (h : Value.okWide P W r base t v) : ∀ a n c, v = .slice (some a) n c → a.spot = none := by
  rintro a n c rfl
  simp only [Value.okWide, ht, Cell.okWide, Cell.ok] at h
  exact h.2.2.2.1
theorem weights_all_mem {e : TypeId} {d : DataW H} : ∀ {ds : List (DataW H)}, d ∈ ds → ∀ n ∈ d.weights P e, n ∈ DataW.weightsAll P e ds := by
  intro ds
  induction ds with
  | nil => intro h; simp at h
  | cons a r ih =>
    intro h n hn
    simp only [DataW.weightsAll, List.mem_append]
    rcases List.mem_cons.1 h with rfl | h
    · exact .inl hn
    · exact .inr (ih h n hn)
/-- a slice that is handed in: where it has room it lies in the world -/
theorem open_slice {t e : TypeId} (B sz : Nat) (ht : P.underlying t = some (.slice e)) (hc : P.cellsOf e = sz) (hB : P.bytesOf e = B) (hsz : 0 < sz) {fuel : Nat} {cs : List Value} {y : DataW H × List MemPlace}
    (hy : DataW.trod enc P W 0 (fun _ => true) true fuel t cs = some y) (hw : ∀ n ∈ y.1.weights P t, n ≤ reachBytes) :
    (cs = [.slice none 0 0]) ∨ (∃ b o s, cs = [.slice (some ⟨b, o, some s⟩) 0 0]) ∨ ∃ b o len cap, cs = [.slice (some ⟨b, o, none⟩) len cap] ∧ len ≤ cap ∧ len ≤ 9223372036854775807 ∧ len * B ≤ 140737488351232 ∧
      ∀ i, i < len → ∃ (c : List Value) (n : Nat) (z : DataW H × List MemPlace), c.length = sz ∧ (∀ j u, c[j]? = some u → W.cell? ⟨b, o + i * sz + j, none⟩ = some u) ∧ DataW.trod enc P W 0 (fun _ => true) true n e c = some z ∧ ∀ n ∈ z.1.weights P e, n ≤ reachBytes := by
  rcases DataW.trod_slice ht hy with ⟨rfl, _⟩ | ⟨a, len, cap, elems, rest, n, _, rfl, rfl, _, hl, hm, hlen, hel, hsp, _⟩
  · exact .inl rfl
  · obtain ⟨hr1, hr2⟩ := hsp rfl
    have hwt : ∀ d ∈ elems.map (·.1), ∀ m ∈ d.weights P e, m ≤ reachBytes := fun d hd m hm2 => hw m (by
      simp only [DataW.weights, ht, List.mem_cons, List.mem_append]
      exact .inr (.inl (weights_all_mem hd m hm2)))
    have each : ∀ i, i < len → ∃ (c : List Value) (z : DataW H × List MemPlace), c.length = sz ∧ (∀ j u, c[j]? = some u → W.cell? (a.add (i * sz + j)) = some u) ∧ DataW.trod enc P W 0 (fun _ => true) true n e c = some z ∧ ∀ n ∈ z.1.weights P e, n ≤ reachBytes := by
      intro i hi
      have h1 := hel i hi
      rw [List.getElem?_eq_getElem (show i < elems.length from by omega), Option.bind_eq_some_iff] at h1
      obtain ⟨c, hcs, hy'⟩ := h1
      obtain ⟨_, hcl, hcell⟩ := World.cells?_some hcs
      refine ⟨c, _, by omega, fun j u hj => ?_, hy', fun m hm2 => hwt _ (List.mem_map.2 ⟨_, List.getElem_mem _, rfl⟩) m hm2⟩
      have hj2 : j < P.cellsOf e := by have := (List.getElem?_eq_some_iff.1 hj).1; omega
      have := hcell j hj2
      rw [hj, hc] at this
      rw [← this, Go.Addr.add_add]
    by_cases h0 : cap = 0
    · subst h0
      obtain rfl : len = 0 := by omega
      obtain ⟨b, o, s⟩ := a
      cases s with
      | none => exact .inr (.inr ⟨b, o, 0, 0, rfl, Nat.le_refl _, Nat.zero_le _, by omega, fun i hi => absurd hi (Nat.not_lt_zero i)⟩)
      | some s => exact .inr (.inl ⟨b, o, s, rfl⟩)
    · have hspot : a.spot = none := by
        have aux : ∀ k c, k = 0 → W.cells? 0 (a.add (k * P.cellsOf e)) (P.cellsOf e) = some c → a.spot = none := by
          intro k c hk hcs
          subst hk
          obtain ⟨_, hcl, hcell⟩ := World.cells?_some hcs
          have hlt : 0 < c.length := by omega
          have h2 := hcell 0 (by omega)
          rw [List.getElem?_eq_getElem hlt] at h2
          have := (cell_lt h2).2
          simpa [Addr.add] using this
        by_cases hl0 : len = 0
        · have h1 := hr2 0 (by omega)
          rw [List.getElem?_eq_getElem (show 0 < rest.length from by omega), Option.bind_eq_some_iff] at h1
          obtain ⟨c, hcs, _⟩ := h1
          exact aux (len + 0) c (by omega) hcs
        · have h1 := hel 0 (by omega)
          rw [List.getElem?_eq_getElem (show 0 < elems.length from by omega), Option.bind_eq_some_iff] at h1
          obtain ⟨c, hcs, _⟩ := h1
          exact aux 0 c rfl hcs
      obtain ⟨b, o, s⟩ := a
      simp only at hspot
      subst hspot
      refine .inr (.inr ⟨b, o, len, cap, rfl, hl, ?_, ?_, fun i hi => ?_⟩)
      · have : maxLen = 9223372036854775807 := by decide
        omega
      · have := hw ((elems.length + rest.length) * P.bytesOf e) (by
          have e1 : (elems.map (·.1)).length = elems.length := List.length_map _
          have e2 : (rest.map (·.1)).length = rest.length := List.length_map _
          simp only [DataW.weights, ht, List.mem_cons, e1, e2]
          exact .inl trivial)
        rw [hB] at this
        have h2 : len * B ≤ (elems.length + rest.length) * B := Nat.mul_le_mul_right _ (by omega)
        exact Nat.le_trans h2 (Nat.le_trans this (by decide))
      · obtain ⟨c, z, h1, h2, h3, h4⟩ := each i hi
        exact ⟨c, n, z, h1, fun j u hj => by rw [← h2 j u hj, addA_none, Nat.add_assoc], h3, h4⟩
end
/-- an argument's weights, out of all arguments' -/
theorem weigh {H : Type} {P : Program} {ts : List TypeId} {ds : List (DataW H)} {j : Nat} {t : TypeId} {d : DataW H} (h : (DataW.weightsEach P ts ds).all (· ≤ reachBytes) = true) (ht : ts[j]? = some t) (hd : ds[j]? = some d) : ∀ n ∈ d.weights P t, n ≤ reachBytes :=
  fun n hn => by have := List.all_eq_true.1 h n (DataW.weights_mem_each ht hd n hn); simpa using this
/-- a function that is told for whoever calls it, called from the world as it is handed in -/
theorem C0.run {P : Program} {f : FuncId} {args : List Value} {W : World} {r : Value} (h : C0 P f args ⟨W, []⟩ r) (ha : args.map (cV id) = args) (hr : cV id r = r) : Calls P f args.toArray W fun e w' => e = .returned r ∧ Below W.heap.size W w' := by
  have hS : St ⟨W, []⟩ id [] W := ⟨⟨rfl, rfl, rfl, Nat.le_refl _, fun _ _ => rfl⟩, by simp, (fun x hx => by cases hx), (fun x hx => by cases hx)⟩
  have h1 := h id W hS
  rw [ha] at h1
  exact h1.mono fun e w' ⟨v, X, h2, _, _, h3, h4, h5⟩ => by
    subst h4
    exact ⟨by rw [h2, hr], h3.below⟩
end Go.Proofs.Ytnkddjdmpnghmaa.Am
namespace Go.Proofs.Ytnkddjdmpnghmaa.Am
set_option linter.unusedSimpArgs false
set_option linter.unusedVariables false
open Go Go.RowKit
structure Knd (α : Type) where
  sz : Nat
  R : Mem → List Value → α → Prop
  len : ∀ {F : Mem} {cs : List Value} {x : α}, R F cs x → cs.length = sz
  le : ∀ {F F' : Mem} {cs : List Value} {x : α}, F.le F' → R F cs x → R F' cs x
theorem lookN_le {F F' : Mem} (hl : F.le F') : ∀ {n : Nat} {a : Addr} {cs : List Value}, lookN F a n = some cs → lookN F' a n = some cs := by
  intro n
  induction n with
  | zero => intro a cs h; exact h
  | succ n ih =>
    intro a cs h
    simp only [lookN] at h ⊢
    split at h <;> try (simp at h; done)
    rename_i v hv
    split at h <;> try (simp at h; done)
    rename_i cs' hcs
    rw [hl _ _ hv, ih hcs]; exact h
/-- a slice, told by what stands in it -/
def Knd.S {α : Type} (k : Knd α) (F : Mem) (v : Value) (xs : List α) : Prop :=
  (∃ b off c, v = .slice (some ⟨b, off, none⟩) xs.length c ∧ xs.length ≤ 9223372036854775807 ∧ ∀ i x, xs[i]? = some x → ∃ cs, lookN F ⟨b, off + i * k.sz, none⟩ k.sz = some cs ∧ k.R F cs x) ∨ (v = .slice none 0 0 ∧ xs = [])
theorem Knd.S.le {α : Type} {k : Knd α} {F F' : Mem} {v : Value} {xs : List α} (h : k.S F v xs) (hl : F.le F') : k.S F' v xs := by
  rcases h with ⟨b, off, c, h1, h2, h3⟩ | h
  · exact .inl ⟨b, off, c, h1, h2, fun i x hx => by obtain ⟨cs, hc, hr⟩ := h3 i x hx; exact ⟨cs, lookN_le hl hc, k.le hl hr⟩⟩
  · exact .inr h
def Knd.int (j : IntKind) : Knd Int where
  sz := 1
  R _ cs x := cs = [.int j x]
  len h := by rw [h]; rfl
  le _ h := h
def Knd.bool : Knd Bool where
  sz := 1
  R _ cs x := cs = [.bool x]
  len h := by rw [h]; rfl
  le _ h := h
def Knd.string : Knd ByteArray where
  sz := 1
  R _ cs x := cs = [.string x]
  len h := by rw [h]; rfl
  le _ h := h
/-- a slice in a cell: of nothing, the address may be any -/
def Knd.slice {α : Type} (k : Knd α) : Knd (List α) where
  sz := 1
  R F cs xs := ∃ v, cs = [v] ∧ (k.S F v xs ∨ ∃ b o s, v = .slice (some ⟨b, o, some (s + 1)⟩) 0 0 ∧ xs = [])
  len h := by obtain ⟨v, rfl, _⟩ := h; rfl
  le hl h := by
    obtain ⟨v, e, h⟩ := h
    exact ⟨v, e, h.imp (·.le hl) id⟩
def Knd.pair {α β : Type} (k : Knd α) (j : Knd β) : Knd (α × β) where
  sz := k.sz + j.sz
  R F cs x := ∃ c1 c2, cs = c1 ++ c2 ∧ k.R F c1 x.1 ∧ j.R F c2 x.2
  len h := by obtain ⟨c1, c2, rfl, h1, h2⟩ := h; rw [List.length_append, k.len h1, j.len h2]
  le hl h := by
    obtain ⟨c1, c2, e, h1, h2⟩ := h
    exact ⟨c1, c2, e, k.le hl h1, j.le hl h2⟩
section
variable {H : Type} {enc : TypeId × Value → H} {P : Program} {W : World}
def Opens {α : Type} (enc : TypeId × Value → H) (P : Program) (W : World) (t : TypeId) (k : Knd α) (G : α → Prop) : Prop :=
  ∀ (fuel : Nat) (cs : List Value) (y : DataW H × List MemPlace), DataW.trod enc P W 0 (fun _ => true) true fuel t cs = some y → (∀ n ∈ y.1.weights P t, n ≤ reachBytes) → ∃ x, k.R ⟨W, []⟩ (cs.map e1) x ∧ (∀ u ∈ cs, plain1 (e1 u) = true) ∧ G x
theorem opens_int {t : TypeId} {k : IntKind} (ht : P.underlying t = some (.int k)) : Opens enc P W t (Knd.int k) (fun n => (Lit.int k n).wf = true) := by
  intro fuel cs y h _
  obtain ⟨n, rfl, _, hw⟩ := DataW.trod_int ht h
  exact ⟨n, rfl, fun u hu => by simp only [List.mem_singleton] at hu; subst hu; rfl, hw⟩
theorem opens_bool {t : TypeId} (ht : P.underlying t = some .bool) : Opens enc P W t Knd.bool (fun _ => True) := by
  intro fuel cs y h _
  obtain ⟨b, rfl, _⟩ := DataW.trod_bool ht h
  exact ⟨b, rfl, fun u hu => by simp only [List.mem_singleton] at hu; subst hu; rfl, trivial⟩
theorem opens_weak {α : Type} {t : TypeId} {k : Knd α} {G G' : α → Prop} (h : Opens enc P W t k G) (hg : ∀ x, G x → G' x) : Opens enc P W t k G' := by
  intro fuel cs y hy hw
  obtain ⟨p, hK, hp, hG⟩ := h fuel cs y hy hw
  exact ⟨p, hK, hp, hg _ hG⟩
/-- the rows of a slice that is handed in -/
theorem opens_rows {α : Type} {t e : TypeId} {k : Knd α} {G : α → Prop} (B : Nat) (ht : P.underlying t = some (.slice e)) (hc : P.cellsOf e = k.sz) (hB : P.bytesOf e = B) (hsz : 0 < k.sz) (h : Opens enc P W e k G) {fuel : Nat} {cs : List Value} {y : DataW H × List MemPlace}
    (hy : DataW.trod enc P W 0 (fun _ => true) true fuel t cs = some y) (hw : ∀ n ∈ y.1.weights P t, n ≤ reachBytes) :
    ∃ (v : Value) (xs : List α), cs = [v] ∧ (k.S ⟨W, []⟩ (e1 v) xs ∨ ∃ b o s, v = .slice (some ⟨b, o, some s⟩) 0 0 ∧ xs = []) ∧ plain1 (e1 v) = true ∧ (∀ x ∈ xs, G x) ∧ xs.length * B ≤ 140737488351232 ∧ ∀ a n c, v = .slice a n c → n ≤ c := by
  rcases open_slice B k.sz ht hc hB hsz hy hw with rfl | ⟨b, o, s, rfl⟩ | ⟨b, o, len, cap, rfl, hl, hm, hb, each⟩
  · exact ⟨_, [], rfl, .inl (.inr ⟨rfl, rfl⟩), rfl, fun x hx => (by cases hx), by simp, fun a n c e => by simp only [Value.slice.injEq] at e; omega⟩
  · exact ⟨_, [], rfl, .inr ⟨b, o, s, rfl, rfl⟩, rfl, fun x hx => (by cases hx), by simp, fun a n c e => by simp only [Value.slice.injEq] at e; omega⟩
  · obtain ⟨xs, hll, hls⟩ := pick_list (Q := fun i (x : α) => (∃ cs, lookN ⟨W, []⟩ ⟨b, o + i * k.sz, none⟩ k.sz = some cs ∧ k.R ⟨W, []⟩ cs x) ∧ G x) len (fun i hi => by
      obtain ⟨c, n, z, h1, h2, h3, h4⟩ := each i hi
      obtain ⟨x, hR, hp, hG⟩ := h n c z h3 h4
      refine ⟨x, ⟨c.map e1, ?_, hR⟩, hG⟩
      have := lookN_of (F := ⟨W, []⟩) (a := ⟨b, o + i * k.sz, none⟩) (cs := c.map e1) (fun j v hv => by
        rw [List.getElem?_map] at hv
        cases hu : c[j]? with
        | none => simp [hu] at hv
        | some u =>
          simp only [hu, Option.map_some, Option.some.injEq] at hv
          subst hv
          exact look_w (h2 j u hu) (hp u (List.mem_of_getElem? hu)))
      rw [List.length_map, h1] at this
      exact this)
    refine ⟨_, xs, rfl, .inl (.inl ⟨b, o, cap, by rw [hll]; rfl, by omega, fun i x hx => (hls i x hx).1⟩), rfl, fun x hx => ?_, by rw [hll]; exact hb, fun a n c e => by simp only [Value.slice.injEq] at e; omega⟩
    obtain ⟨i, hi⟩ := List.getElem?_of_mem hx
    exact (hls i x hi).2
theorem opens_slice {α : Type} {t e : TypeId} {k : Knd α} {G : α → Prop} (B : Nat) (ht : P.underlying t = some (.slice e)) (hc : P.cellsOf e = k.sz) (hB : P.bytesOf e = B) (hsz : 0 < k.sz) (h : Opens enc P W e k G) :
    Opens enc P W t k.slice (fun xs => (∀ x ∈ xs, G x) ∧ xs.length * B ≤ 140737488351232) := by
  intro fuel cs y hy hw
  obtain ⟨v, xs, rfl, hS, hp, hG, hb, _⟩ := opens_rows B ht hc hB hsz h hy hw
  refine ⟨xs, ⟨e1 v, rfl, ?_⟩, fun u hu => by simp only [List.mem_singleton] at hu; subst hu; exact hp, hG, hb⟩
  rcases hS with hS | ⟨b, o, s, rfl, rfl⟩
  · exact .inl hS
  · exact .inr ⟨b, o, s, rfl, rfl⟩
/-- the cells of some fields, one behind the other -/
def catF (P : Program) (cs : List Value) : List Field → List Value
  | [] => []
  | f :: fs => (cs.drop f.offset).take (P.cellsOf f.type) ++ catF P cs fs
def OpensF {α : Type} (enc : TypeId × Value → H) (P : Program) (W : World) (fs : List Field) (k : Knd α) (G : α → Prop) : Prop :=
  ∀ (fuel : Nat) (cs : List Value) (xs : List (DataW H × List MemPlace)), xs.length = fs.length → (∀ (i : Nat) (f : Field), fs[i]? = some f → DataW.trod enc P W 0 (fun _ => true) true fuel f.type ((cs.drop f.offset).take (P.cellsOf f.type)) = xs[i]?) →
    (∀ n ∈ DataW.weightsEach P (fs.map (·.type)) (xs.map (·.1)), n ≤ reachBytes) → ∃ x, k.R ⟨W, []⟩ ((catF P cs fs).map e1) x ∧ (∀ u ∈ catF P cs fs, plain1 (e1 u) = true) ∧ G x
theorem opensF_one {α : Type} {f : Field} {k : Knd α} {G : α → Prop} (h : Opens enc P W f.type k G) : OpensF enc P W [f] k G := by
  intro fuel cs xs hl hf hw
  match xs, hl with
  | [y], _ =>
    obtain ⟨x, hK, hp, hG⟩ := h fuel _ y (hf 0 f rfl) (fun n hn => hw n (by simp only [List.map_cons, List.map_nil, DataW.weightsEach, List.mem_append]; exact .inl hn))
    exact ⟨x, by simpa [catF] using hK, fun u hu => hp u (by simpa [catF] using hu), hG⟩
theorem opensF_cons {α β : Type} {f : Field} {fs : List Field} {k : Knd α} {k2 : Knd β} {G : α → Prop} {G2 : β → Prop} (h : Opens enc P W f.type k G) (h2 : OpensF enc P W fs k2 G2) : OpensF enc P W (f :: fs) (k.pair k2) (fun x => G x.1 ∧ G2 x.2) := by
  intro fuel cs xs hl hf hw
  match xs, hl with
  | y :: ys, hl =>
    obtain ⟨x, hK, hp, hG⟩ := h fuel _ y (hf 0 f rfl) (fun n hn => hw n (by simp only [List.map_cons, DataW.weightsEach, List.mem_append]; exact .inl hn))
    obtain ⟨x2, hK2, hp2, hG2⟩ := h2 fuel cs ys (by simpa using hl) (fun i g hg => hf (i + 1) g hg) (fun n hn => hw n (by simp only [List.map_cons, DataW.weightsEach, List.mem_append]; exact .inr hn))
    exact ⟨(x, x2), ⟨_, _, List.map_append, hK, hK2⟩, fun u hu => by
      simp only [catF, List.mem_append] at hu
      rcases hu with hu | hu
      · exact hp u hu
      · exact hp2 u hu, hG, hG2⟩
/-- the fields stand one behind the other from o on; how many cells they take -/
def contig (P : Program) : Nat → List Field → Option Nat
  | o, [] => some o
  | o, f :: fs => if f.offset = o then contig P (o + P.cellsOf f.type) fs else none
theorem catF_contig (cs : List Value) : ∀ (fs : List Field) (o m : Nat), contig P o fs = some m → m ≤ cs.length → catF P cs fs = (cs.drop o).take (m - o) ∧ o ≤ m := by
  intro fs
  induction fs with
  | nil => intro o m h hm; simp only [contig, Option.some.injEq] at h; subst h; simp [catF]
  | cons f fs ih =>
    intro o m h hm
    simp only [contig] at h
    split at h
    · rename_i ho
      obtain ⟨e, h1⟩ := ih _ _ h hm
      refine ⟨?_, by omega⟩
      simp only [catF]
      rw [e, ho, show m - o = P.cellsOf f.type + (m - (o + P.cellsOf f.type)) from by omega, List.take_add, List.drop_drop]
    · exact absurd h (by simp)
theorem opens_struct {α : Type} {t : TypeId} {fs : Array Field} {k : Knd α} {G : α → Prop} (ht : P.underlying t = some (.struct fs)) (hcon : contig P 0 fs.toList = some (P.cellsOf t)) (h : OpensF enc P W fs.toList k G) : Opens enc P W t k G := by
  intro fuel cs y hy hw
  obtain ⟨xs, n, _, rfl, hl, hxl, hx⟩ := DataW.trod_struct ht hy
  obtain ⟨x, hK, hp, hG⟩ := h n cs xs (by simpa using hxl) (fun i f hf => hx i f (by simpa using hf)) (fun m hm => hw m (by simp only [DataW.weights, ht]; exact hm))
  obtain ⟨e, _⟩ := catF_contig (P := P) cs fs.toList 0 _ hcon (by omega)
  have e2 : catF P cs fs.toList = cs := by rw [e]; simp [← hl]
  rw [e2] at hK hp
  exact ⟨x, hK, hp, hG⟩
/-- a value that is handed in, as it is told -/
def eV : Value → Value
  | .agg cs => .agg ⟨cs.toList.map e1⟩
  | v => e1 v
theorem cV_eV {v : Value} (h : ∀ vs, v ≠ .tuple vs) : cV id (eV v) = v := by
  cases v with
  | agg cs =>
    have : (⟨cs.toList.map e1⟩ : Array Value).map (c1 id) = cs := by
      apply Array.ext'
      simp only [Array.toList_map, List.map_map]
      conv => rhs; rw [← List.map_id cs.toList]
      exact List.map_congr_left fun v _ => c1_e1 id v
    show cV id (.agg ⟨cs.toList.map e1⟩) = .agg cs
    rw [cV_agg, this]
  | tuple vs => exact absurd rfl (h vs)
  | func fn x y => exact c1_e1 id (.func fn x y)
  | pointer a => cases a with
    | none => rfl
    | some a => exact c1_e1 id (.pointer (some a))
  | slice a n c => cases a with
    | none => rfl
    | some a => exact c1_e1 id (.slice (some a) n c)
  | _ => rfl
/-- an argument, opened -/
theorem opened {α : Type} {t : TypeId} {k : Knd α} {G : α → Prop} {v : Value} {d : DataW H} {ps : List MemPlace} (h : Opens enc P W t k G) (ht : DataW.Trod enc P W 0 (fun _ => true) true t v d ps) (hw : ∀ n ∈ d.weights P t, n ≤ reachBytes) : ∃ x, k.R ⟨W, []⟩ (v.cells.toList.map e1) x ∧ G x := by
  obtain ⟨fuel, hf⟩ := ht
  obtain ⟨x, h1, _, h2⟩ := h fuel _ _ hf hw
  exact ⟨x, h1, h2⟩
/-- a slice that is an argument itself -/
theorem openedS {α : Type} {t e : TypeId} {k : Knd α} {G : α → Prop} (B : Nat) (ht : P.underlying t = some (.slice e)) (hc : P.cellsOf e = k.sz) (hB : P.bytesOf e = B) (hsz : 0 < k.sz) (h : Opens enc P W e k G) {v : Value} {d : DataW H} {ps : List MemPlace} {a : Option Addr} {n c : Nat} (hv : v = .slice a n c) (hs : ∀ a n c, v = .slice (some a) n c → a.spot = none)
    (hd : DataW.Trod enc P W 0 (fun _ => true) true t v d ps) (hw : ∀ n ∈ d.weights P t, n ≤ reachBytes) : ∃ xs : List α, k.S ⟨W, []⟩ v xs ∧ eV v = v ∧ (∀ x ∈ xs, G x) ∧ xs.length * B ≤ 140737488351232 ∧ ∀ a n c, v = .slice a n c → n ≤ c := by
  obtain ⟨fuel, hf⟩ := hd
  subst hv
  obtain ⟨v, xs, e0, hS, hp, hG, hb, hc⟩ := opens_rows B ht hc hB hsz h hf hw
  have e0' : [Value.slice a n c] = [v] := e0
  obtain rfl : Value.slice a n c = v := (List.cons.inj e0').1
  have he : e1 (.slice a n c) = .slice a n c := by
    cases a with
    | none => rfl
    | some a =>
      have := hs a n c rfl
      obtain ⟨b, o, s⟩ := a
      simp only at this
      subst this
      rfl
  refine ⟨xs, ?_, he, hG, hb, hc⟩
  rcases hS with hS | ⟨b, o, s, hS, _⟩
  · rw [he] at hS; exact hS
  · have := hs _ _ _ hS
    cases this
end
/-- a function that is told for whoever calls it, called from the world as it is handed in -/
theorem C0.run_e {P : Program} {f : FuncId} {args : List Value} {W : World} {r : Value} (h : C0 P f (args.map eV) ⟨W, []⟩ r) (ha : ∀ v ∈ args, ∀ vs, v ≠ .tuple vs) (hr : cV id r = r) : Calls P f args.toArray W fun e w' => e = .returned r ∧ Below W.heap.size W w' := by
  have e : (args.map eV).map (cV id) = args := by
    rw [List.map_map]
    conv => rhs; rw [← List.map_id args]
    exact List.map_congr_left fun v hv => cV_eV (ha v hv)
  have := C0.run (P := P) (f := f) (args := args.map eV) (W := W) (r := r)
  obtain h2 := h id W (St.none W id)
  rw [e] at h2
  refine h2.mono fun x w' ⟨v, X, h1, _, _, h3, h4, h5⟩ => ?_
  subst h4 h5
  exact ⟨by rw [h1, hr], h3.below⟩
end Go.Proofs.Ytnkddjdmpnghmaa.Am
namespace Go.Proofs.Ytnkddjdmpnghmaa.Am
set_option linter.unusedSimpArgs false
set_option linter.unusedVariables false
open Go Go.RowKit
section
variable {H : Type} {enc : TypeId × Value → H} {P : Program} {W : World}
end
theorem wf_i64 {n : Int} (h : (Lit.int .i64 n).wf = true) : i64ok n := bounds_i64 h
end Go.Proofs.Ytnkddjdmpnghmaa.Am
namespace Go.Proofs.Ytnkddjdmpnghmaa.Am
set_option linter.unusedSimpArgs false
set_option linter.unusedVariables false
set_option maxRecDepth 100000
set_option maxHeartbeats 4000000
open Go Go.RowKit
def kItem : Knd Item where
  sz := 11
  R F cs x := ∃ g, cs = x.cells g ∧ RGl F g x.glyphs
  len h := by obtain ⟨g, rfl, _⟩ := h; rfl
  le hl h := by obtain ⟨g, e, h⟩ := h; exact ⟨g, e, h.le hl⟩
theorem lookN_1 {F : Mem} {a : Addr} {v : Value} (h : lookN F a 1 = some [v]) : look F a = some v := by
  simp only [lookN] at h
  split at h <;> simp at h
  rename_i u hu
  rw [hu, h]
theorem RInts.ofS {F : Mem} {v : Value} {xs : List Int} (h : (Knd.int .i64).S F v xs) : RInts F v xs := by
  rcases h with ⟨b, off, c, h1, h2, h3⟩ | h
  · refine .inl ⟨b, off, c, h1, h2, fun i x hx => ?_⟩
    obtain ⟨cs, hc, rfl⟩ := h3 i x hx
    have := lookN_1 hc
    rwa [show i * (Knd.int .i64).sz = i from Nat.mul_one i] at this
  · exact .inr h
theorem RGl.ofK {F : Mem} {cs : List Value} {xs : List Int} (h : (Knd.int .i64).slice.R F cs xs) : ∃ g, cs = [g] ∧ RGl F g xs := by
  obtain ⟨v, e, h | h⟩ := h
  · exact ⟨v, e, .inl (RInts.ofS h)⟩
  · exact ⟨v, e, .inr h⟩
theorem RItems.ofS {F : Mem} {v : Value} {xs : List Item} (h : kItem.S F v xs) : RItems F v xs := by
  rcases h with ⟨b, off, c, h1, h2, h3⟩ | h
  · refine .inl ⟨b, off, c, h1, h2, fun i x hx => ?_⟩
    obtain ⟨cs, hc, g, rfl, hg⟩ := h3 i x hx
    exact ⟨g, hc, hg⟩
  · exact .inr h
theorem RItN.ofK {F : Mem} {cs : List Value} {xs : List Item} (h : kItem.slice.R F cs xs) : ∃ g, cs = [g] ∧ RItN F g xs := by
  obtain ⟨v, e, h | h⟩ := h
  · exact ⟨v, e, .inl (RItems.ofS h)⟩
  · exact ⟨v, e, .inr h⟩
section
variable {H : Type} {enc : TypeId × Value → H} {W : World}
theorem opens_to {α β : Type} {P : Program} {t : TypeId} {k : Knd α} {j : Knd β} {G : α → Prop} {G' : β → Prop} (h : Opens enc P W t k G) (hf : ∀ F cs x, k.R F cs x → G x → ∃ y, j.R F cs y ∧ G' y) : Opens enc P W t j G' := by
  intro fuel cs y hy hw
  obtain ⟨x, hK, hp, hG⟩ := h fuel cs y hy hw
  obtain ⟨z, h1, h2⟩ := hf _ _ _ hK hG
  exact ⟨z, h1, hp, h2⟩
theorem opI : Opens enc Try.prog W 3 (Knd.int .i64) i64ok := opens_weak (opens_int Try.underlying3) fun _ h => wf_i64 h
theorem opIs : Opens enc Try.prog W 23 (Knd.int .i64).slice (fun xs => (∀ x ∈ xs, i64ok x) ∧ xs.length * 8 ≤ 140737488351232) := opens_slice 8 Try.underlying23 (by kernel_rfl) (by kernel_rfl) (by decide) opI
theorem opItem : Opens enc Try.prog W 49 kItem (fun x => x.glyphs.length * 8 ≤ 140737488351232) :=
  opens_to (opens_struct Try.underlying49 (by kernel_rfl) (opensF_cons opI (opensF_cons opI (opensF_cons opI (opensF_cons opI (opensF_cons opI (opensF_cons (opens_bool Try.underlying4) (opensF_cons opI (opensF_cons opI (opensF_cons opI (opensF_cons opI (opensF_one opIs))))))))))))
    fun F cs p h hg => by
      obtain ⟨x1, x2, x3, x4, x5, x6, x7, x8, x9, x10, x11⟩ := p
      obtain ⟨c1, r1, rfl, rfl, c2, r2, rfl, rfl, c3, r3, rfl, rfl, c4, r4, rfl, rfl, c5, r5, rfl, rfl, c6, r6, rfl, rfl, c7, r7, rfl, rfl, c8, r8, rfl, rfl, c9, r9, rfl, rfl, c10, r10, rfl, rfl, h11⟩ := h
      obtain ⟨g, rfl, k⟩ := RGl.ofK h11
      exact ⟨⟨x1, x2, x3, x4, x5, x6, x7, x8, x9, x10, x11⟩, ⟨g, rfl, k⟩, hg.2.2.2.2.2.2.2.2.2.2.2⟩
end
end Go.Proofs.Ytnkddjdmpnghmaa.Am
namespace Go.Proofs.Ytnkddjdmpnghmaa.Am
set_option linter.unusedSimpArgs false
set_option linter.unusedVariables false
set_option maxRecDepth 100000
set_option maxHeartbeats 4000000
open Go Go.RowKit
theorem sumL_cat (xs ys : List Int) : ∀ k, sumL (xs ++ ys) (xs.length + k) = sumL xs xs.length + sumL ys k
  | 0 => by
    have : ∀ j, j ≤ xs.length → sumL (xs ++ ys) j = sumL xs j := by
      intro j
      induction j with
      | zero => intro _; rfl
      | succ j ih =>
        intro hj
        rw [sumL, sumL, ih (by omega)]
        congr 1
        simp only [ints, List.getD_eq_getElem?_getD]
        rw [List.getElem?_append_left (by omega)]
    rw [Nat.add_zero, this _ (Nat.le_refl _), sumL]; omega
  | k + 1 => by
    rw [show xs.length + (k + 1) = (xs.length + k) + 1 from rfl, sumL, sumL, sumL_cat xs ys k]
    have : ints (xs ++ ys) (xs.length + k) = ints ys k := by
      simp only [ints, List.getD_eq_getElem?_getD]
      rw [List.getElem?_append_right (by omega), Nat.add_sub_cancel_left]
    omega
theorem walk_x {gs : List Int} {l : List Item} {fm b : Nat} {x0 : Int} (hb : b ≤ l.length) (hok : ∀ i, i < l.length → (at_ l i).ok = true) : ∀ d, d ≤ b - fm → (walkS gs ((l.drop fm).take (b - fm)) x0 d).x = x0 + (wS l (fm + d) - wS l fm) + (sumL gs (walkS gs ((l.drop fm).take (b - fm)) x0 d).k - sumL (gluL Item.width l fm d) (gluL Item.width l fm d).length)
  | 0, _ => by simp only [walkS, gluL, sumL, Nat.add_zero, List.length_nil]; omega
  | d + 1, hd => by
    have ih := walk_x (gs := gs) (fm := fm) (x0 := x0) hb hok d (by omega)
    have hk := walkS_k gs ((l.drop fm).take (b - fm)) x0 d
    have ho := hok (fm + d) (by omega)
    simp only [Item.ok, decide_eq_true_eq] at ho
    rw [walkS, at_part hb (by omega), stepS, gluL, show fm + (d + 1) = fm + d + 1 from rfl, wS]
    generalize walkS gs ((l.drop fm).take (b - fm)) x0 d = s at *
    generalize at_ l (fm + d) = x at *
    have e := sumL_cat (gluL Item.width l fm d) (if x.kind = 2 then [x.width] else []) (if x.kind = 2 then [x.width] else []).length
    rw [← List.length_append] at e
    rw [e]
    by_cases h1 : x.kind = 1
    · rw [if_pos h1, if_neg (show ¬ x.kind = 3 by omega), if_neg (show ¬ x.kind = 2 by omega)]
      dsimp only [sumL, List.length_nil]
      omega
    · rw [if_neg h1]
      by_cases h2 : x.kind = 2
      · rw [if_pos h2, if_pos h2, if_neg (show ¬ x.kind = 3 by omega)]
        have : sumL [x.width] ([x.width] : List Int).length = x.width := by simp [sumL, ints]
        rw [this]
        dsimp only [sumL]
        omega
      · rw [if_neg h2, if_neg h2, if_pos (show x.kind = 3 by omega)]
        dsimp only [sumL, List.length_nil]
        omega
theorem sum_addTo {ws s : List Int} {sg : Int} : ∀ k, k ≤ ws.length → sumL (addTo ws s sg ws.length) k = sumL ws k + sg * sumL s k
  | 0, _ => by simp [sumL]
  | k + 1, hk => by
    rw [sumL, sumL, sumL, sum_addTo k (by omega)]
    have : ints (addTo ws s sg ws.length) k = ints ws k + sg * ints s k := by
      simp only [addTo, ints, List.getD_eq_getElem?_getD]
      rw [List.getElem?_map, List.getElem?_range (by omega)]
      simp only [Option.map_some, Option.getD_some]
      rw [if_pos (by omega)]
    rw [this, Int.mul_add]
    omega
theorem sum_shares (t : Int) (xs : List Int) : ∀ k, k ≤ xs.length → sumL (shares t xs xs.length) k = flS t xs k
  | 0, _ => by rw [flS_0]; rfl
  | k + 1, hk => by
    rw [sumL, sum_shares t xs k (by omega)]
    have : ints (shares t xs xs.length) k = flS t xs (k + 1) - flS t xs k := by
      simp only [shares, ints, List.getD_eq_getElem?_getD]
      rw [List.getElem?_map, List.getElem?_range (by omega)]
      rfl
    omega
theorem gl_total {xs : List Int} {t : Int} (h : ∀ x ∈ xs, 0 ≤ x ∧ x ≤ 1073741824) (hl : xs.length ≤ 1024) (ht : inB t) (h0 : sumL xs xs.length ≠ 0) : flS t xs xs.length = t := by
  have e := gl_sumS h hl
  have hb := gl_sum h _ (Nat.le_refl _)
  rw [flS, e]
  dsimp only
  rw [floorS, if_neg (by omega), Int.mul_ediv_cancel _ h0, keepS, if_pos (show -1099511627776 ≤ t ∧ t ≤ 1099511627776 from ht)]
theorem mYZ {l : List Item} (hg : goodL l = true) {a1 b : Nat} (hb : b < l.length) : (0 ≤ mY l a1 b ∧ mY l a1 b ≤ 1099511627776) ∧ (0 ≤ mZ l a1 b ∧ mZ l a1 b ≤ 1099511627776) := by
  have hlen := good_len hg
  have hfl := fromA_le l a1 b
  have oY : ∀ x ∈ glY l a1 b, 0 ≤ x ∧ x ≤ 1073741824 := gl_mem_ok hg (f := Item.stretch) (i := fromA l a1 b) (d := b - fromA l a1 b) (by omega) okY
  have oZ : ∀ x ∈ glZ l a1 b, 0 ≤ x ∧ x ≤ 1073741824 := gl_mem_ok hg (f := Item.shrink) (i := fromA l a1 b) (d := b - fromA l a1 b) (by omega) okZ
  have eY := glY_sum l a1 b
  have eZ := glZ_sum l a1 b
  have nY := gluL_le Item.stretch l (fromA l a1 b) (b - fromA l a1 b)
  have nZ := gluL_le Item.shrink l (fromA l a1 b) (b - fromA l a1 b)
  have bY := gl_sum oY _ (Nat.le_refl _)
  have bZ := gl_sum oZ _ (Nat.le_refl _)
  have nY2 : (glY l a1 b).length ≤ b - fromA l a1 b := nY
  have nZ2 : (glZ l a1 b).length ≤ b - fromA l a1 b := nZ
  omega
/-- what the glue of a line takes more than it is wide -/
theorem glue_diff {l : List Item} (hg : goodL l = true) {a1 b : Nat} (hb : b < l.length) {w ag : Int} (hw : 1 ≤ w ∧ w ≤ 1073741824) :
    sumL (glueD l a1 b w ag).1 (glueD l a1 b w ag).1.length - sumL (glW l a1 b) (glW l a1 b).length = if 0 < w - mW l a1 b ∧ ag = 0 ∧ 0 < mY l a1 b then w - mW l a1 b else if w - mW l a1 b < 0 then -(min (-(w - mW l a1 b)) (mZ l a1 b)) else 0 := by
  have hlen := good_len hg
  have hfl := fromA_le l a1 b
  have oY : ∀ x ∈ glY l a1 b, 0 ≤ x ∧ x ≤ 1073741824 := gl_mem_ok hg (f := Item.stretch) (i := fromA l a1 b) (d := b - fromA l a1 b) (by omega) okY
  have oZ : ∀ x ∈ glZ l a1 b, 0 ≤ x ∧ x ≤ 1073741824 := gl_mem_ok hg (f := Item.shrink) (i := fromA l a1 b) (d := b - fromA l a1 b) (by omega) okZ
  have eY := glY_sum l a1 b
  have eZ := glZ_sum l a1 b
  have nY : (glY l a1 b).length ≤ 1024 := Nat.le_trans (gluL_le Item.stretch l (fromA l a1 b) (b - fromA l a1 b)) (by omega)
  have nZ : (glZ l a1 b).length ≤ 1024 := Nat.le_trans (gluL_le Item.shrink l (fromA l a1 b) (b - fromA l a1 b)) (by omega)
  have lY : (glY l a1 b).length = (glW l a1 b).length := gluL_len _ _ _ _ _
  have lZ : (glZ l a1 b).length = (glW l a1 b).length := gluL_len _ _ _ _ _
  have hm := mW_bd hg (a1 := a1) hb
  obtain ⟨hy, hz⟩ := mYZ hg (a1 := a1) hb
  unfold glueD freeD
  split
  · rename_i h
    have hin : inB (w - mW l a1 b) := by unfold inB; omega
    rw [gl_share oY nY hin (by omega)]
    show sumL (addTo _ _ _ _) (addTo _ _ _ _).length - _ = _
    rw [addTo_len, sum_addTo _ (Nat.le_refl _), ← lY]
    rw [show sumL (shares (w - mW l a1 b) (glY l a1 b) (glY l a1 b).length) (glY l a1 b).length = w - mW l a1 b from by
      rw [sum_shares _ _ _ (Nat.le_refl _)]
      exact gl_total oY nY hin (by omega)]
    omega
  · split
    · rename_i h1 h2
      rcases Int.lt_or_le 0 (mZ l a1 b) with hz0 | hz0
      · have hin : inB (min (-(w - mW l a1 b)) (mZ l a1 b)) := by unfold inB; omega
        rw [gl_share oZ nZ hin (by omega)]
        show sumL (addTo _ _ _ _) (addTo _ _ _ _).length - _ = _
        rw [addTo_len, sum_addTo _ (Nat.le_refl _), ← lZ]
        rw [show sumL (shares (min (-(w - mW l a1 b)) (mZ l a1 b)) (glZ l a1 b) (glZ l a1 b).length) (glZ l a1 b).length = min (-(w - mW l a1 b)) (mZ l a1 b) from by
          rw [sum_shares _ _ _ (Nat.le_refl _)]
          exact gl_total oZ nZ hin (by omega)]
        omega
      · rw [gl_noshare oZ nZ (by omega)]
        show sumL (glW l a1 b) (glW l a1 b).length - _ = _
        omega
    · show sumL (glW l a1 b) (glW l a1 b).length - _ = _
      omega
/-- how wide a line is, and whether it is too wide -/
theorem one_width {l : List Item} (hg : goodL l = true) {a1 b : Nat} (hb : b < l.length) {w ag : Int} (hw : 1 ≤ w ∧ w ≤ 1073741824) :
    (oneD l a1 b w ag).width = beginD (w - mW l a1 b) ag + mW l a1 b + (if 0 < w - mW l a1 b ∧ ag = 0 ∧ 0 < mY l a1 b then w - mW l a1 b else if w - mW l a1 b < 0 then -(min (-(w - mW l a1 b)) (mZ l a1 b)) else 0) := by
  have hfl := fromA_le l a1 b
  have hpl := part_len (l := l) (f := fromA l a1 b) (b := b) (by omega)
  have hx := walk_x (gs := (glueD l a1 b w ag).1) (fm := fromA l a1 b) (b := b) (x0 := beginD (w - mW l a1 b) ag) (by omega) (fun i hi => good_ok hg hi) (b - fromA l a1 b) (Nat.le_refl _)
  have hk := walkS_k (glueD l a1 b w ag).1 ((l.drop (fromA l a1 b)).take (b - fromA l a1 b)) (beginD (w - mW l a1 b) ag) (b - fromA l a1 b)
  rw [gluL_part (by omega) (Nat.le_refl _)] at hk
  rw [hk] at hx
  have e1 : (gluL Item.width l (fromA l a1 b) (b - fromA l a1 b)).length = (glueD l a1 b w ag).1.length := by rw [glueD_len]; rfl
  have hd := glue_diff hg (a1 := a1) hb (ag := ag) hw
  have e2 : sumL (glW l a1 b) (glW l a1 b).length = sumL (gluL Item.width l (fromA l a1 b) (b - fromA l a1 b)) (glueD l a1 b w ag).1.length := by rw [← e1]; rfl
  rw [e2] at hd
  rw [e1] at hx
  rw [show fromA l a1 b + (b - fromA l a1 b) = b from by omega] at hx
  unfold oneD lineS
  rw [hpl]
  unfold mW at hd hx ⊢
  by_cases h3 : (at_ l b).kind = 3
  · simp only [if_pos h3] at hd hx ⊢
    omega
  · simp only [if_neg h3] at hd hx ⊢
    omega
theorem one_over {l : List Item} (hg : goodL l = true) {a1 b : Nat} (hb : b < l.length) {w ag : Int} : (oneD l a1 b w ag).over = decide (mZ l a1 b < -(w - mW l a1 b)) := by
  obtain ⟨hy, hz⟩ := mYZ hg (a1 := a1) hb
  have e : (oneD l a1 b w ag).over = (glueD l a1 b w ag).2 := by
    unfold oneD lineS
    dsimp only
    split <;> rfl
  rw [e]
  unfold glueD freeD
  split
  · exact (decide_eq_false (by omega)).symm
  · split
    · rfl
    · exact (decide_eq_false (by omega)).symm
end Go.Proofs.Ytnkddjdmpnghmaa.Am
