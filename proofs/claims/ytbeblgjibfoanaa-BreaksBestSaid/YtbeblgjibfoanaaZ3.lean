/- Rules for walking Go functions, and contracts proved by them (V7, U10, U11, U12a, U13, U14, U12, V8). -/
import Derived.Test.YtbeblgjibfoanaaZ2
namespace Go.Proofs.Ytbeblgjibfoanaa.Am
set_option linter.unusedSimpArgs false
set_option linter.unusedVariables false
set_option maxRecDepth 100000
set_option maxHeartbeats 4000000
open Go Go.RowKit
theorem large_C (F : Mem) (v : Value) (l : List Item) (hv : RItems F v l) : C0 Try.prog 10 [v] F (.bool (decide ((120 < l.length ∧ l.length ≤ 1024) ∨ 3000 < l.length))) := by
  rcases hv.forms with ⟨b, off, c, rfl⟩ | ⟨rfl, rfl⟩
  all_goals
    refine C.go hT Try.func10 Try.ntmps10 ?_
    refine sq ?_
    refine rg ?_
    refine st (h := O) ?_
    refine nl ?_
    refine sq ?_
    refine rg ?_
    iterate 4 (refine st (h := O) ?_)
    refine gD (fun g6 => ?_) (fun g6 => ?_)
    · refine sg (h := O) ?_
      iterate 2 (refine sg (h := O) ?_)
      iterate 2 (refine st (h := O) ?_)
      refine gD (fun g11 => ?_) (fun g11 => ?_)
      · refine sp ?_
        iterate 2 (refine sp ?_)
        iterate 2 (refine st (h := O) ?_)
        refine nl ?_
        refine rt ⟨?_, rfl⟩
        simp only [Value.bool.injEq, eq_comm (a := true), eq_comm (a := false), decide_eq_true_eq, decide_eq_false_iff_not, decide_eq_decide, List.length_nil]
        omega
      · refine sg (h := O) ?_
        iterate 2 (refine sg (h := O) ?_)
        iterate 2 (refine st (h := O) ?_)
        refine nl ?_
        refine rt ⟨?_, rfl⟩
        simp only [Value.bool.injEq, eq_comm (a := true), eq_comm (a := false), decide_eq_true_eq, decide_eq_false_iff_not, decide_eq_decide, List.length_nil]
        omega
    · refine sp ?_
      iterate 2 (refine sp ?_)
      iterate 2 (refine st (h := O) ?_)
      iterate 3 (refine sg (h := O) ?_)
      iterate 2 (refine st (h := O) ?_)
      refine nl ?_
      refine rt ⟨?_, rfl⟩
      simp only [Value.bool.injEq, eq_comm (a := true), eq_comm (a := false), decide_eq_true_eq, decide_eq_false_iff_not, decide_eq_decide, List.length_nil]
      omega
theorem Ints_C (F : Mem) (v : Value) (xs : List Int) (hv : RInts F v xs) (hcap : ∀ a n c, v = .slice (some a) n c → n ≤ c) : C Try.prog 29 [v, .int .i64 2000] F (fun u Y => SlV u ∧ ∀ G, Rd G Y → RInts G u (xs.take 2000)) := by
  rcases hv with ⟨vb, vo, vc, rfl, h63, hr⟩ | ⟨rfl, rfl⟩
  · have hone : ∀ ys : List Int, ∀ v ∈ ivs ys, v.oneCell' = true := fun ys v hv => by obtain ⟨y, _, rfl⟩ := List.mem_map.1 hv; rfl
    have hpla : ∀ ys : List Int, (ivs ys).all plain1 = true := fun ys => List.all_eq_true.2 fun v hv => by obtain ⟨y, _, rfl⟩ := List.mem_map.1 hv; rfl
    have hntt : ∀ (ys : List Int) t, (ivs ys).all (nt1 t) = true := fun ys t => List.all_eq_true.2 fun v hv => by obtain ⟨y, _, rfl⟩ := List.mem_map.1 hv; rfl
    have hap : ∀ K, rdN F K ⟨vb, vo, none⟩ ((xs.take 2000).length * 1) = some (ivs (xs.take 2000)) := fun K => by
      rw [Nat.mul_one]
      exact lookN_ints (fun i y hy => by
        rw [List.getElem?_take] at hy
        split at hy
        · exact hr i y hy
        · simp at hy)
    have hlt : (xs.take 2000).length = min 2000 xs.length := List.length_take
    have hl := hcap _ _ _ rfl
    refine C.go hT Try.func29 Try.ntmps29 ?_
    refine sq ?_
    refine rg ?_
    refine st (h := O) ?_
    refine nl ?_
    iterate 2 (refine sq ?_)
    refine rg ?_
    iterate 4 (refine st (h := O) ?_)
    refine nl ?_
    refine cD (fun c0 => ?_) (fun c0 => ?_)
    · refine rg ?_
      iterate 2 (refine st (h := O) ?_)
      refine st (h := sdCutH) ?_
      refine st (h := O) ?_
      refine nl ?_
      refine sq ?_
      try rw [show (2000 : Int).toNat = (xs.take 2000).length from by omega]
      refine rg ?_
      refine sl ?_
      refine st (h := O) ?_
      first
        | (refine ap0 ?_)
        | (refine apO (m := (xs.take 2000).length) (news := ivs (xs.take 2000)) 1012 12 [] [] ?_ (happ := App.slice (hap _) (hone _) (by simp [ivs])) (hnn := hntt _ _) (hru := by simp only [Bool.or_eq_true]; exact .inr (hntt _ _)) (hflat := fun h => by cases h); intro cap19 hc19 hd19)
      refine st (h := O) ?_
      refine nl ?_
      refine rtX fun ι hV => ⟨.inl ⟨_, _, _, _, rfl⟩, fun G hG => ?_⟩
      first
        | exact .inl ⟨_, _, _, rfl, by simp, fun i y h => by simp at h⟩
        | exact Rd.ivsW (c := cap19) hG List.mem_cons_self (by show (ivs _).map (r1 ι) = _; exact ivs_r _ _) (by omega) (by omega)
    · rcases Nat.eq_zero_or_pos xs.length with hz | hz
      · have hz0 : xs = [] := List.eq_nil_of_length_eq_zero hz
        subst hz0
        refine sk ?_
        refine sq ?_
        try rw [show (2000 : Int).toNat = (xs.take 2000).length from by omega]
        refine rg ?_
        refine sl ?_
        refine st (h := O) ?_
        first
          | (refine ap0 ?_)
          | (refine apO (m := (xs.take 2000).length) (news := ivs (xs.take 2000)) 1012 12 [] [] ?_ (happ := App.slice (hap _) (hone _) (by simp [ivs])) (hnn := hntt _ _) (hru := by simp only [Bool.or_eq_true]; exact .inr (hntt _ _)) (hflat := fun h => by cases h); intro cap19 hc19 hd19)
        refine st (h := O) ?_
        refine nl ?_
        refine rtX fun ι hV => ⟨.inl ⟨_, _, _, _, rfl⟩, fun G hG => ?_⟩
        first
          | exact .inl ⟨_, _, _, rfl, by simp, fun i y h => by simp at h⟩
          | exact Rd.ivsW (c := cap19) hG List.mem_cons_self (by show (ivs _).map (r1 ι) = _; exact ivs_r _ _) (by omega) (by omega)
      · rw [show xs.length = (xs.take 2000).length from by omega]
        refine sk ?_
        refine sq ?_
        try rw [show (2000 : Int).toNat = (xs.take 2000).length from by omega]
        refine rg ?_
        refine sl ?_
        refine st (h := O) ?_
        first
          | (refine ap0 ?_)
          | (refine apO (m := (xs.take 2000).length) (news := ivs (xs.take 2000)) 1012 12 [] [] ?_ (happ := App.slice (hap _) (hone _) (by simp [ivs])) (hnn := hntt _ _) (hru := by simp only [Bool.or_eq_true]; exact .inr (hntt _ _)) (hflat := fun h => by cases h); intro cap19 hc19 hd19)
        refine st (h := O) ?_
        refine nl ?_
        refine rtX fun ι hV => ⟨.inl ⟨_, _, _, _, rfl⟩, fun G hG => ?_⟩
        first
          | exact .inl ⟨_, _, _, rfl, by simp, fun i y h => by simp at h⟩
          | exact Rd.ivsW (c := cap19) hG List.mem_cons_self (by show (ivs _).map (r1 ι) = _; exact ivs_r _ _) (by omega) (by omega)
  ·
    refine C.go hT Try.func29 Try.ntmps29 ?_
    refine sq ?_
    refine rg ?_
    refine st (h := O) ?_
    refine nl ?_
    iterate 2 (refine sq ?_)
    refine rg ?_
    iterate 4 (refine st (h := O) ?_)
    refine nl ?_
    refine cD (fun c0 => ?_) (fun c0 => ?_)
    · exact absurd c0 (by decide)
    · refine sk ?_
      refine sq ?_
      refine rg ?_
      refine sl ?_
      refine st (h := O) ?_
      refine ap0 ?_
      refine st (h := O) ?_
      refine nl ?_
      refine rtX fun ι hV => ⟨.inl ⟨_, _, _, _, rfl⟩, fun G hG => ?_⟩
      exact .inl ⟨_, _, _, rfl, by simp, fun i y h => by simp at h⟩
def gluI : Item := ⟨2, 5, 3, 2, 0, false, 0, 0, 0, 0, []⟩
def boxI : Item := ⟨1, 10, 0, 0, 0, false, 0, 0, 0, 0, []⟩
def fivePre : Nat → List Item
  | 0 => []
  | i + 1 => fivePre i ++ (if 0 < i then [gluI, boxI] else [boxI])
def fiveL : List Item := fivePre 5 ++ [⟨3, 0, 0, 0, 10000, false, 0, 0, 0, 0, []⟩, ⟨2, 0, 1073741824, 0, 0, false, 0, 0, 0, 0, []⟩, ⟨3, 0, 0, 0, -10000, false, 0, 0, 0, 0, []⟩]
def cellsI (l : List Item) : List Value := (l.map fun x => x.cells (.slice none 0 0)).flatten
theorem fivePre_len : ∀ i, (fivePre i).length ≤ 2 * i
  | 0 => Nat.le_refl _
  | i + 1 => by
    have := fivePre_len i
    simp only [fivePre, List.length_append]
    split <;> simp <;> omega
theorem cellsI_app (l m : List Item) : cellsI (l ++ m) = cellsI l ++ cellsI m := by simp [cellsI]
theorem cellsI_len (l : List Item) : (cellsI l).length = l.length * 11 := by
  induction l with
  | nil => rfl
  | cons x l ih =>
    simp only [cellsI, List.map_cons, List.flatten_cons, List.length_append, Item.cells_len, List.length_cons] at ih ⊢
    omega
theorem cellsI_c (l : List Item) (ι : Nat → Nat) : (cellsI l).map (r1 ι) = cellsI l := by
  conv => rhs; rw [← List.map_id (cellsI l)]
  refine List.map_congr_left fun u hu => r1_plain ι ?_
  obtain ⟨y, hy, hu⟩ := List.mem_flatten.1 hu
  obtain ⟨x, _, rfl⟩ := List.mem_map.1 hy
  exact Item.cells_plain x rfl u hu
/-- items without glyphs, where they lie -/
theorem RItems.ofCells {G : Mem} {b c n : Nat} {l : List Item} (hg : ∀ x ∈ l, x.glyphs = []) (hn : n = l.length) (h : ∀ (o : Nat) (u : Value), (cellsI l)[o]? = some u → look G ⟨b, o, none⟩ = some u) (hb : l.length ≤ 9223372036854775807) : RItems G (.slice (some ⟨b, 0, none⟩) n c) l := by
  subst hn
  refine .inl ⟨b, 0, c, rfl, hb, fun i x hx => ⟨.slice none 0 0, ?_, .inl (.inr ⟨rfl, hg x (List.mem_of_getElem? hx)⟩)⟩⟩
  have := lookN_of (F := G) (a := ⟨b, 0 + i * 11, none⟩) (cs := x.cells (.slice none 0 0)) (fun j v hv => by
    have hj : j < 11 := by have := (List.getElem?_eq_some_iff.1 hv).1; rwa [Item.cells_len] at this
    refine h (0 + i * 11 + j) v ?_
    unfold cellsI
    rw [Nat.zero_add, flat_at (fun y hy => by
      obtain ⟨k, _, rfl⟩ := List.mem_map.1 hy
      exact Item.cells_len _ _) hj, List.getElem?_map, hx]
    exact hv)
  rwa [Item.cells_len] at this
theorem Five_C (F : Mem) : C Try.prog 32 [] F (fun u Y => SlV u ∧ ∀ G, Rd G Y → RItems G u fiveL) := by
  refine C.go hT Try.func32 Try.ntmps32 ?_
  refine sq ?_
  refine rg ?_
  refine st (h := O) ?_
  refine nl ?_
  refine sq ?_
  refine rg ?_
  refine st (h := O) ?_
  refine nl ?_
  iterate 2 (refine sq ?_)
  refine rg ?_
  refine st (h := O) ?_
  refine nl ?_
  refine bl ?_
  refine J.loop4 (α := Option Nat) (β := Nat) (γ := Nat) (δ := List Value) (fun o m i cs => i ≤ 5 ∧ m = (fivePre i).length ∧ apB o m ∧ cs = cellsI (fivePre i) ∧ (i = 0 ↔ o = none)) (fun o m i cs => [(1, apV 16 o m), (2, .int .i64 i)]) [] (fun o m i cs => apR 16 49 11 true o cs ++ []) [] (fun o m i cs => 5 - i) (none) (0) (0) ([]) (by exact ⟨rfl, rfl, trivial⟩) (by exact trivial) (by exact (by repeat' first | exact trivial | refine And.intro rfl ?_)) ?_ ?_
  · exact ⟨by omega, rfl, rfl, rfl, by simp⟩
  · intro o m i cs L1 K1 e1 e2 hI
    rcases o with _ | cap_o
    all_goals
      dsimp only [apV, apR, List.cons_append, List.nil_append] at e1 e2
      subst e1 e2
      obtain ⟨hi5, hm, hap, hcs, hio⟩ := hI
      simp only [apB] at hap
      simp only [reduceCtorEq, iff_false, iff_true] at hio
      have hcl : cs.length = m * 11 := by rw [hcs, hm, cellsI_len]
      have hml : m ≤ 2 * i := hm ▸ fivePre_len i
      iterate 2 (refine sq ?_)
      refine rg ?_
      iterate 2 (refine st (h := O) ?_)
      refine nl ?_
      refine cD (fun c0 => ?_) (fun c0 => ?_)
      · have hi4 : i < 5 := by omega
        refine sk ?_
        refine sq ?_
        refine bl ?_
        iterate 2 (refine sq ?_)
        refine rg ?_
        iterate 2 (refine st (h := O) ?_)
        refine nl ?_
        refine cD (fun c1 => ?_) (fun c1 => ?_)
        · refine rg ?_
          iterate 2 (refine st (h := O) ?_)
          refine sl ?_
          first | refine apN (news := [_, _, _, _, _, _, _, _, _, _, _]) 16 true [(2, _)] [] ?_ | refine apO (news := [_, _, _, _, _, _, _, _, _, _, _]) 1016 16 [(2, _)] [] ?_
          intro cap12 hc12 hd12
          refine st (h := O) ?_
          refine nl ?_
          refine rg ?_
          iterate 2 (refine st (h := O) ?_)
          refine sl ?_
          first | refine apO (news := [_, _, _, _, _, _, _, _, _, _, _]) 1016 16 [(2, _)] [] ?_
          intro cap16 hc16 hd16
          refine st (h := O) ?_
          refine nl ?_
          refine bk ?_
          refine rg ?_
          refine st (h := O) ?_
          refine st (h := sdA) ?_
          refine st (h := O) ?_
          refine nl ?_
          refine bk4 (some _) (_) (i + 1) (_) (by exact ⟨rfl, rfl, trivial⟩) (by exact trivial) (by exact (by repeat' first | exact trivial | refine And.intro rfl ?_)) ?_ ?_
          · omega
          · have hst : fivePre (i + 1) = fivePre i ++ (if 0 < i then [gluI, boxI] else [boxI]) := rfl
            first
              | (exfalso; omega)
              | (rw [if_pos (by omega)] at hst
                 exact ⟨by omega, by rw [hst, List.length_append, ← hm]; rfl, ⟨by omega, by omega⟩, by rw [hst, cellsI_app, ← hcs, List.append_assoc]; rfl, by simp⟩)
              | (subst hio
                 exact ⟨by omega, rfl, ⟨by omega, by omega⟩, rfl, by simp⟩)
        · refine sk ?_
          refine rg ?_
          iterate 2 (refine st (h := O) ?_)
          refine sl ?_
          first | refine apN (news := [_, _, _, _, _, _, _, _, _, _, _]) 16 true [(2, _)] [] ?_ | refine apO (news := [_, _, _, _, _, _, _, _, _, _, _]) 1016 16 [(2, _)] [] ?_
          intro cap16 hc16 hd16
          refine st (h := O) ?_
          refine nl ?_
          refine bk ?_
          refine rg ?_
          refine st (h := O) ?_
          refine st (h := sdA) ?_
          refine st (h := O) ?_
          refine nl ?_
          refine bk4 (some _) (_) (i + 1) (_) (by exact ⟨rfl, rfl, trivial⟩) (by exact trivial) (by exact (by repeat' first | exact trivial | refine And.intro rfl ?_)) ?_ ?_
          · omega
          · have hst : fivePre (i + 1) = fivePre i ++ (if 0 < i then [gluI, boxI] else [boxI]) := rfl
            first
              | (exfalso; omega)
              | (rw [if_pos (by omega)] at hst
                 exact ⟨by omega, by rw [hst, List.length_append, ← hm]; rfl, ⟨by omega, by omega⟩, by rw [hst, cellsI_app, ← hcs, List.append_assoc]; rfl, by simp⟩)
              | (subst hio
                 exact ⟨by omega, rfl, ⟨by omega, by omega⟩, rfl, by simp⟩)
      · obtain rfl : i = 5 := by omega
        refine ex ?_
        refine sq ?_
        refine rg ?_
        iterate 4 (refine st (h := O) ?_)
        refine sl ?_
        first | refine apN (news := [_, _, _, _, _, _, _, _, _, _, _, _, _, _, _, _, _, _, _, _, _, _, _, _, _, _, _, _, _, _, _, _, _]) 16 true [] [] ?_ | refine apO (news := [_, _, _, _, _, _, _, _, _, _, _, _, _, _, _, _, _, _, _, _, _, _, _, _, _, _, _, _, _, _, _, _, _]) 1016 16 [] [] ?_
        intro cap22 hc22 hd22
        refine st (h := O) ?_
        refine nl ?_
        first
          | (exfalso; omega)
          | (refine rtX fun ι hV => ⟨.inl ⟨_, _, _, _, rfl⟩, fun G hG => ?_⟩
             refine RItems.ofCells (by decide) (by rw [hm]; rfl) (fun o u hu => hG (ι 16, Row.r ι _) List.mem_cons_self o u ?_) (by decide)
             show (List.map (r1 ι) (cs ++ _))[o]? = _
             rw [hcs]
             show (List.map (r1 ι) (cellsI (fivePre 5) ++ cellsI [⟨3, 0, 0, 0, 10000, false, 0, 0, 0, 0, []⟩, ⟨2, 0, 1073741824, 0, 0, false, 0, 0, 0, 0, []⟩, ⟨3, 0, 0, 0, -10000, false, 0, 0, 0, 0, []⟩]))[o]? = _
             rw [← cellsI_app, cellsI_c]
             exact hu)

end Go.Proofs.Ytbeblgjibfoanaa.Am
namespace Go.Proofs.Ytbeblgjibfoanaa.Am
set_option linter.unusedSimpArgs false
set_option linter.unusedVariables false
set_option maxRecDepth 100000
set_option maxHeartbeats 4000000
open Go Go.RowKit
theorem foA_step {l : List Item} {k : Nat} (h : k < l.length) : foA l k = if forceB (at_ l k) = true then k else foA l (k + 1) := by
  unfold foA
  rw [show l.length - k = (l.length - (k + 1)) + 1 from by omega]
  rfl
theorem bgA_step {l : List Item} {k : Nat} (h : k < l.length) : bgA l k = if forceB (at_ l k) = true then k else if (at_ l k).kind = 1 then k else bgA l (k + 1) := by
  unfold bgA
  rw [show l.length - k = (l.length - (k + 1)) + 1 from by omega]
  rfl
theorem foA_end (l : List Item) : foA l l.length = l.length := by simp [foA, foD]
theorem bgA_end (l : List Item) : bgA l l.length = l.length := by simp [bgA, bgD]
theorem ready_C (F : Mem) (v : Value) (l : List Item) (hv : RItems F v l) (hg : goodL l = true) : C Try.prog 36 [v] F (fun u Y => ∀ G, RItems G v l → Rd G Y → RPara G u l) := by
  have hlen := good_len hg
  rcases hv.cases with ⟨b, off, c, rfl, _, hr⟩ | ⟨rfl, rfl⟩
  ·
    refine C.go hT Try.func36 Try.ntmps36 ?_
    refine sq ?_
    refine rg ?_
    refine st (h := O) ?_
    refine nl ?_
    refine sq ?_
    refine rg ?_
    iterate 3 (refine st (h := O) ?_)
    refine nl ?_
    refine sq ?_
    refine dr 19 [] [0, 1, 2, 4, 5, 7, 8, 10, 11, 13, 14, 1614100704, 16, 1017, 18] ?_
    iterate 2 (refine dt (hv := by exact O) ?_)
    refine dt (hv := by exact sdA) ?_
    refine dt (hv := by exact O) ?_
    refine dt (hv := by exact sdA) ?_
    refine dt (hv := by exact O) ?_
    refine dt (hv := by exact sdA) ?_
    refine dt (hv := by exact O) ?_
    refine dt (hv := by exact sdA) ?_
    refine dt (hv := by exact O) ?_
    refine dt (hv := by exact sdA) ?_
    refine dmksI (ty := 28) (q := (l.length : Int) + 1) (ms := [3, 6, 9, 12, 15]) (l.length + 1) (fun m => m + 10) (L0 := [(0, .slice (some ⟨b, off, none⟩) l.length c), (3, .int .i64 l.length), (10, .slice (some ⟨b, off, none⟩) l.length c)]) ?_ ?_ ?_ ?_ ?_ ⟨rfl, rfl, rfl, trivial⟩ (by omega) (by omega) (by simp)
    rotate_left
    all_goals try (intro m hm; simp only [List.mem_cons, List.not_mem_nil, or_false] at hm)
    · rcases hm with rfl | rfl | rfl | rfl | rfl <;> exact ⟨_, _, _, rfl, rfl, rfl, rfl, rfl, rfl⟩
    · rcases hm with rfl | rfl | rfl | rfl | rfl <;> exact Nat.le_of_ble_eq_true rfl
    · rcases hm with rfl | rfl | rfl | rfl | rfl <;> rfl
    · rcases hm with rfl | rfl | rfl | rfl | rfl <;> rfl
    refine dt (hv := by exact O) ?_
    refine dbx ?_
    refine dt (hv := by exact O) ?_
    refine dn ?_
    iterate 2 (refine sq ?_)
    refine rg ?_
    iterate 3 (refine st (h := O) ?_)
    refine nl ?_
    refine bl ?_
    refine J.loop4 (α := Nat) (β := Nat → Int) (γ := Nat → Int) (δ := Nat → Int) (fun k W Y Z => k ≤ l.length ∧ ∀ j, j ≤ k → W j = wS l j ∧ Y j = yS l j ∧ Z j = zS l j) (fun k W Y Z => [(30, .int .i64 k)]) [(0, _), (3, _), (4, _), (28, _), (29, _)] (fun k W Y Z => [(13, rI W (l.length + 1)), (16, rI Y (l.length + 1)), (19, rI Z (l.length + 1))]) [(27, _), (22, _), (25, _)] (fun k W Y Z => l.length - k) (0) (fun _ => 0) (fun _ => 0) (fun _ => 0) (by exact ⟨rfl, trivial⟩) (by exact ⟨rfl, rfl, rfl, rfl, rfl, trivial⟩) (by exact ⟨rfl, rfl, rfl, rfl, rfl, rfl, rfl, rfl, rfl, rfl, rfl, rfl, trivial⟩) ?_ ?_
    · exact ⟨Nat.zero_le _, fun j hj => by rw [Nat.le_zero.1 hj]; exact ⟨rfl, rfl, rfl⟩⟩
    · intro k W Y Z L1 K1 e1 e2 hI
      dsimp only [apV, apR, List.cons_append, List.nil_append] at e1 e2
      subst e1 e2
      obtain ⟨hk, hW⟩ := hI
      refine sq ?_
      refine rg ?_
      refine st (h := O) ?_
      refine nl ?_
      refine sq ?_
      refine cD (fun c0 => ?_) (fun c0 => ?_)
      · have hkl : k < l.length := by omega
        obtain ⟨r0, r1, r2, r3, r4, r5, g, hg2, hri⟩ := hr k hkl
        have hN : rdN F [] ⟨b, off + (k : Int).toNat * 11, none⟩ 11 = some ((at_ l k).cells g) := hg2
        have hok := good_ok hg hkl
        simp only [Item.ok, decide_eq_true_eq] at hok
        have hsb := sums_bd hg k (by omega)
        have e1 : (0 + ((k : Int) + 1).toNat * 1) = k + 1 := by omega
        have e2 : (0 + (k : Int).toNat * 1) = k := by omega
        rcases hri with (⟨gb, go, gc, rfl, _, _⟩ | ⟨rfl, _⟩) | ⟨gb, go, gsp, rfl, _⟩
        all_goals
          refine sk ?_
          refine sq ?_
          refine bl ?_
          refine sq ?_
          refine rg ?_
          refine st (h := O) ?_
          refine st (h := (sdX (z := 11))) ?_
          refine st (h := sdLN) ?_
          refine al ?_
          refine st (h := O) ?_
          refine so ?_
          refine nl ?_
          refine sq ?_
          refine J.cut3 (α := Nat → Int) (β := Nat → Int) (γ := Nat → Int) (fun W' Y' Z' => (W' (0 + ((k : Int) + 1).toNat * 1) = wS l k ∧ Y' (0 + ((k : Int) + 1).toNat * 1) = yS l k ∧ Z' (0 + ((k : Int) + 1).toNat * 1) = zS l k) ∧ ∀ j, j ≤ k → W' j = wS l j ∧ Y' j = yS l j ∧ Z' j = zS l j) (fun W' Y' Z' => []) [(0, _), (3, _), (4, _), (5, _), (6, _), (28, _), (29, _), (30, _)] (fun W' Y' Z' => [(13, rI W' (l.length + 1)), (16, rI Y' (l.length + 1)), (19, rI Z' (l.length + 1))]) [(6, _), (27, _), (22, _), (25, _)] (by exact ⟨rfl, rfl, rfl, rfl, rfl, rfl, rfl, rfl, trivial⟩) (by exact ⟨rfl, rfl, rfl, rfl, rfl, rfl, rfl, rfl, trivial⟩) ?_ ?_
          · refine dr 40 [6, 13, 16, 19, 27, 22, 25] [0, 1, 2, 3, 4, 5, 2006, 2007, 2008, 9, 2010, 2011, 2012, 2013, 2014, 15, 2016, 2017, 18, 19, 20, 21, 22, 23, 24, 2025, 2026, 2027, 28, 2029, 2030, 31, 2032, 2033, 2034, 35, 2036, 2037, 38, 39, 1040, 2041, 1042, 2043, 1044] ?_
            iterate 2 (refine dt (hv := by exact O) ?_)
            refine dt (hv := by exact sdFA) ?_
            refine dt (hv := by exact sdL) ?_
            refine dt (hv := by exact O) ?_
            refine dt (hv := by exact sdA) ?_
            iterate 2 (refine dq (hv := by exact fun _ _ => O) ?_)
            refine dq (hv := by exact fun _ _ => sdFA) ?_
            refine dt (hv := by exact sdL) ?_
            refine dq (hv := by exact fun _ _ => O) ?_
            refine dq (hv := by exact fun _ _ => sdA) ?_
            iterate 2 (refine dq (hv := by exact fun _ _ => O) ?_)
            refine dq (hv := by exact fun _ _ => sdFA) ?_
            refine dt (hv := by exact sdL) ?_
            refine dq (hv := by exact fun _ _ => O) ?_
            refine dq (hv := by exact fun _ _ => sdA) ?_
            iterate 2 (refine dt (hv := by exact O) ?_)
            refine dt (hv := by exact sdFA) ?_
            refine dt (hv := by exact sdL) ?_
            refine dt (hv := by exact O) ?_
            refine dt (hv := by exact (sdX (z := 1))) ?_
            refine dt (hv := by exact (by first | exact sdLG | exact sdW)) ?_
            iterate 2 (refine dq (hv := by exact fun _ _ => O) ?_)
            refine dq (hv := by exact fun _ _ => sdFA) ?_
            refine dt (hv := by exact sdL) ?_
            refine dq (hv := by exact fun _ _ => O) ?_
            refine dq (hv := by exact fun _ _ => (sdX (z := 1))) ?_
            refine dt (hv := by exact (by first | exact sdLG | exact sdW)) ?_
            iterate 2 (refine dq (hv := by exact fun _ _ => O) ?_)
            refine dq (hv := by exact fun _ _ => sdFA) ?_
            refine dt (hv := by exact sdL) ?_
            refine dq (hv := by exact fun _ _ => O) ?_
            refine dq (hv := by exact fun _ _ => (sdX (z := 1))) ?_
            refine dt (hv := by exact (by first | exact sdLG | exact sdW)) ?_
            refine dt (hv := by exact (sdX (z := 1))) ?_
            first | refine dsoG ?_ | refine dso ?_
            refine dq (hv := by exact fun _ _ => (sdX (z := 1))) ?_
            first | refine dsoG ?_ | refine dso ?_
            refine dq (hv := by exact fun _ _ => (sdX (z := 1))) ?_
            first | refine dsoG ?_ | refine dso ?_
            refine dn ?_
            refine ck3 (_) (_) (_) (by exact trivial) (by exact ⟨rfl, rfl, rfl, rfl, rfl, rfl, rfl, rfl, trivial⟩) (by exact ⟨rfl, rfl, rfl, rfl, rfl, rfl, rfl, rfl, rfl, rfl, rfl, rfl, rfl, rfl, trivial⟩) ?_
            obtain ⟨hW1, hW2, hW3⟩ := hW k (Nat.le_refl _)
            rw [e1, e2]
            refine ⟨⟨by simp [setI, hW1], by simp [setI, hW2], by simp [setI, hW3]⟩, fun j hj => ?_⟩
            have : j ≠ k + 1 := by omega
            simp [setI, this, hW j hj]
          · intro W' Y' Z' L1 K1 e1 e2 hI
            dsimp only [List.cons_append, List.nil_append] at e1 e2
            subst e1 e2
            obtain ⟨⟨n1, n2, n3⟩, ho⟩ := hI
            iterate 2 (refine sq ?_)
            refine rg ?_
            refine st (h := sdFA) ?_
            refine st (h := sdL) ?_
            refine st (h := O) ?_
            refine nl ?_
            refine cN (fun c1 => ?_) (fun c1 => ?_)
            · refine dr 12 [13, 16, 19, 6, 27, 22, 25] [0, 1, 2, 3, 4, 5, 6, 7, 8, 9, 10, 11, 1012] ?_
              iterate 2 (refine dt (hv := by exact O) ?_)
              refine dt (hv := by exact sdFA) ?_
              refine dt (hv := by exact sdL) ?_
              refine dt (hv := by exact O) ?_
              refine dt (hv := by exact sdA) ?_
              refine dt (hv := by exact (sdX (z := 1))) ?_
              refine dt (hv := by exact (by first | exact sdLG | exact sdW)) ?_
              refine dt (hv := by exact sdFA) ?_
              refine dt (hv := by exact sdL) ?_
              refine dt (hv := by exact sdA) ?_
              refine dt (hv := by exact (sdX (z := 1))) ?_
              first | refine dsoG ?_ | refine dso ?_
              refine dn ?_
              refine sq ?_
              refine rg ?_
              refine st (h := sdFA) ?_
              refine st (h := sdL) ?_
              refine st (h := O) ?_
              refine nl ?_
              refine cD (fun c2 => ?_) (fun c2 => ?_)
              · refine sq ?_
                refine dr 12 [13, 16, 19, 6, 27, 22, 25] [0, 1, 2, 3, 4, 5, 6, 7, 8, 9, 10, 11, 1012] ?_
                iterate 2 (refine dt (hv := by exact O) ?_)
                refine dt (hv := by exact sdFA) ?_
                refine dt (hv := by exact sdL) ?_
                refine dt (hv := by exact O) ?_
                refine dt (hv := by exact sdA) ?_
                refine dt (hv := by exact (sdX (z := 1))) ?_
                refine dt (hv := by exact (by first | exact sdLG | exact sdW)) ?_
                refine dt (hv := by exact sdFA) ?_
                refine dt (hv := by exact sdL) ?_
                refine dt (hv := by exact sdA) ?_
                refine dt (hv := by exact (sdX (z := 1))) ?_
                first | refine dsoG ?_ | refine dso ?_
                refine dn ?_
                refine dr 12 [13, 16, 19, 6, 27, 22, 25] [0, 1, 2, 3, 4, 5, 6, 7, 8, 9, 10, 11, 1012] ?_
                iterate 2 (refine dt (hv := by exact O) ?_)
                refine dt (hv := by exact sdFA) ?_
                refine dt (hv := by exact sdL) ?_
                refine dt (hv := by exact O) ?_
                refine dt (hv := by exact sdA) ?_
                refine dt (hv := by exact (sdX (z := 1))) ?_
                refine dt (hv := by exact (by first | exact sdLG | exact sdW)) ?_
                refine dt (hv := by exact sdFA) ?_
                refine dt (hv := by exact sdL) ?_
                refine dt (hv := by exact sdA) ?_
                refine dt (hv := by exact (sdX (z := 1))) ?_
                first | refine dsoG ?_ | refine dso ?_
                refine dn ?_
                refine bk ?_
                refine rg ?_
                refine st (h := sdA) ?_
                refine st (h := O) ?_
                refine nl ?_
                refine bk4 (k + 1) (_) (_) (_) (by exact ⟨rfl, trivial⟩) (by exact ⟨rfl, rfl, rfl, rfl, rfl, trivial⟩) (by exact ⟨rfl, rfl, rfl, rfl, rfl, rfl, rfl, rfl, rfl, rfl, rfl, rfl, trivial⟩) ?_ ?_
                · omega
                · refine ⟨by omega, fun j hj => ?_⟩
                  simp only [e1] at *
                  rcases Nat.lt_or_ge k j with h | h
                  · obtain rfl : j = k + 1 := by omega
                    first | (exfalso; omega) | simp [setI, wS, yS, zS, *]
                  · have : j ≠ k + 1 := by omega
                    simp [setI, this, ho j h]
              · refine sk ?_
                refine bk ?_
                refine rg ?_
                refine st (h := sdA) ?_
                refine st (h := O) ?_
                refine nl ?_
                refine bk4 (k + 1) (_) (_) (_) (by exact ⟨rfl, trivial⟩) (by exact ⟨rfl, rfl, rfl, rfl, rfl, trivial⟩) (by exact ⟨rfl, rfl, rfl, rfl, rfl, rfl, rfl, rfl, rfl, rfl, rfl, rfl, trivial⟩) ?_ ?_
                · omega
                · refine ⟨by omega, fun j hj => ?_⟩
                  simp only [e1] at *
                  rcases Nat.lt_or_ge k j with h | h
                  · obtain rfl : j = k + 1 := by omega
                    first | (exfalso; omega) | simp [setI, wS, yS, zS, *]
                  · have : j ≠ k + 1 := by omega
                    simp [setI, this, ho j h]
            · refine sk ?_
              refine sq ?_
              refine rg ?_
              refine st (h := sdFA) ?_
              refine st (h := sdL) ?_
              refine st (h := O) ?_
              refine nl ?_
              refine cD (fun c2 => ?_) (fun c2 => ?_)
              · refine sq ?_
                refine dr 12 [13, 16, 19, 6, 27, 22, 25] [0, 1, 2, 3, 4, 5, 6, 7, 8, 9, 10, 11, 1012] ?_
                iterate 2 (refine dt (hv := by exact O) ?_)
                refine dt (hv := by exact sdFA) ?_
                refine dt (hv := by exact sdL) ?_
                refine dt (hv := by exact O) ?_
                refine dt (hv := by exact sdA) ?_
                refine dt (hv := by exact (sdX (z := 1))) ?_
                refine dt (hv := by exact (by first | exact sdLG | exact sdW)) ?_
                refine dt (hv := by exact sdFA) ?_
                refine dt (hv := by exact sdL) ?_
                refine dt (hv := by exact sdA) ?_
                refine dt (hv := by exact (sdX (z := 1))) ?_
                first | refine dsoG ?_ | refine dso ?_
                refine dn ?_
                refine dr 12 [13, 16, 19, 6, 27, 22, 25] [0, 1, 2, 3, 4, 5, 6, 7, 8, 9, 10, 11, 1012] ?_
                iterate 2 (refine dt (hv := by exact O) ?_)
                refine dt (hv := by exact sdFA) ?_
                refine dt (hv := by exact sdL) ?_
                refine dt (hv := by exact O) ?_
                refine dt (hv := by exact sdA) ?_
                refine dt (hv := by exact (sdX (z := 1))) ?_
                refine dt (hv := by exact (by first | exact sdLG | exact sdW)) ?_
                refine dt (hv := by exact sdFA) ?_
                refine dt (hv := by exact sdL) ?_
                refine dt (hv := by exact sdA) ?_
                refine dt (hv := by exact (sdX (z := 1))) ?_
                first | refine dsoG ?_ | refine dso ?_
                refine dn ?_
                refine bk ?_
                refine rg ?_
                refine st (h := sdA) ?_
                refine st (h := O) ?_
                refine nl ?_
                refine bk4 (k + 1) (_) (_) (_) (by exact ⟨rfl, trivial⟩) (by exact ⟨rfl, rfl, rfl, rfl, rfl, trivial⟩) (by exact ⟨rfl, rfl, rfl, rfl, rfl, rfl, rfl, rfl, rfl, rfl, rfl, rfl, trivial⟩) ?_ ?_
                · omega
                · refine ⟨by omega, fun j hj => ?_⟩
                  simp only [e1] at *
                  rcases Nat.lt_or_ge k j with h | h
                  · obtain rfl : j = k + 1 := by omega
                    first | (exfalso; omega) | simp [setI, wS, yS, zS, *]
                  · have : j ≠ k + 1 := by omega
                    simp [setI, this, ho j h]
              · refine sk ?_
                refine bk ?_
                refine rg ?_
                refine st (h := sdA) ?_
                refine st (h := O) ?_
                refine nl ?_
                refine bk4 (k + 1) (_) (_) (_) (by exact ⟨rfl, trivial⟩) (by exact ⟨rfl, rfl, rfl, rfl, rfl, trivial⟩) (by exact ⟨rfl, rfl, rfl, rfl, rfl, rfl, rfl, rfl, rfl, rfl, rfl, rfl, trivial⟩) ?_ ?_
                · omega
                · refine ⟨by omega, fun j hj => ?_⟩
                  simp only [e1] at *
                  rcases Nat.lt_or_ge k j with h | h
                  · obtain rfl : j = k + 1 := by omega
                    first | (exfalso; omega) | simp [setI, wS, yS, zS, *]
                  · have : j ≠ k + 1 := by omega
                    simp [setI, this, ho j h]
      · obtain rfl : k = l.length := by omega
        refine ex ?_
        refine sq ?_
        refine dr 13 [13, 16, 19, 27, 22, 25] [0, 1, 2, 3, 4, 2005, 2006, 2007, 8, 2009, 10, 2011, 12, 1013, 2014, 1015] ?_
        iterate 2 (refine dt (hv := by exact O) ?_)
        refine dt (hv := by exact sdFA) ?_
        refine dt (hv := by exact sdL) ?_
        refine dt (hv := by exact O) ?_
        iterate 2 (refine dq (hv := by exact fun _ _ => O) ?_)
        refine dq (hv := by exact fun _ _ => sdFA) ?_
        refine dt (hv := by exact sdL) ?_
        refine dq (hv := by exact fun _ _ => O) ?_
        refine dt (hv := by exact O) ?_
        refine dq (hv := by exact fun _ _ => O) ?_
        refine dt (hv := by exact (sdX (z := 1))) ?_
        first | refine dsoG ?_ | refine dso ?_
        refine dq (hv := by exact fun _ _ => (sdX (z := 1))) ?_
        first | refine dsoG ?_ | refine dso ?_
        refine dn ?_
        iterate 2 (refine sq ?_)
        refine rg ?_
        refine st (h := O) ?_
        refine st (h := sdS) ?_
        refine st (h := O) ?_
        refine nl ?_
        refine bl ?_
        refine J.loop3 (α := Int) (β := Nat → Int) (γ := Nat → Int) (fun i B Fo => -1 ≤ i ∧ i < l.length ∧ ∀ j : Nat, i < j → j ≤ l.length → B j = bgA l j ∧ Fo j = foA l j) (fun i B Fo => [(7, .int .i64 i)]) [(0, _), (4, _)] (fun i B Fo => [(22, rI B (l.length + 1)), (25, rI Fo (l.length + 1))]) [(13, _), (16, _), (19, _), (27, _)] (fun i B Fo => (i + 1).toNat) (_) (_) (_) (by exact ⟨rfl, trivial⟩) (by exact ⟨rfl, rfl, trivial⟩) (by exact ⟨rfl, rfl, rfl, rfl, rfl, rfl, rfl, rfl, rfl, rfl, rfl, rfl, trivial⟩) ?_ ?_
        · refine ⟨by omega, by omega, fun j hj hj2 => ?_⟩
          obtain rfl : j = l.length := by omega
          simp [setI, foA_end, bgA_end]
        · intro i B Fo L1 K1 e1 e2 hI
          dsimp only [apV, apR, List.cons_append, List.nil_append] at e1 e2
          subst e1 e2
          obtain ⟨hi0, hil, hB⟩ := hI
          iterate 2 (refine sq ?_)
          refine rg ?_
          iterate 2 (refine st (h := O) ?_)
          refine nl ?_
          refine cD (fun c3 => ?_) (fun c3 => ?_)
          · obtain ⟨k, rfl⟩ := Int.eq_ofNat_of_zero_le (show (0 : Int) ≤ i by omega)
            have hkl : k < l.length := by omega
            have e1 : (0 + ((k : Int) + 1).toNat * 1) = k + 1 := by omega
            have e2 : (0 + (k : Int).toNat * 1) = k := by omega
            obtain ⟨r0, r1, r2, r3, r4, r5, g, hg2, hri⟩ := hr k hkl
            have hN : rdN F [] ⟨b, off + (k : Int).toNat * 11, none⟩ 11 = some ((at_ l k).cells g) := hg2
            have hsv := hri.sl
            rcases hri with (⟨gb, go, gc, rfl, _, _⟩ | ⟨rfl, _⟩) | ⟨gb, go, gsp, rfl, _⟩
            all_goals
              refine sk ?_
              refine sq ?_
              refine bl ?_
              refine sq ?_
              refine J.cut2 (α := Nat → Int) (β := Nat → Int) (fun B' Fo' => (B' (0 + (k : Int).toNat * 1) = k ∧ Fo' (0 + (k : Int).toNat * 1) = foA l (k + 1)) ∧ ∀ j : Nat, k < j → j ≤ l.length → B' j = bgA l j ∧ Fo' j = foA l j) (fun B' Fo' => []) [(0, _), (4, _), (7, _)] (fun B' Fo' => [(22, rI B' (l.length + 1)), (25, rI Fo' (l.length + 1))]) [(13, _), (16, _), (19, _), (27, _)] (by exact ⟨rfl, rfl, rfl, trivial⟩) (by exact ⟨rfl, rfl, rfl, rfl, rfl, rfl, rfl, rfl, trivial⟩) ?_ ?_
              · refine dr 20 [22, 25, 13, 16, 19, 27] [0, 1, 2, 3, 4, 2005, 2006, 2007, 8, 2009, 10, 2011, 2012, 2013, 14, 2015, 2016, 2017, 18, 19, 1020, 2021, 1022] ?_
                iterate 2 (refine dt (hv := by exact O) ?_)
                refine dt (hv := by exact sdFA) ?_
                refine dt (hv := by exact sdL) ?_
                refine dt (hv := by exact O) ?_
                iterate 2 (refine dq (hv := by exact fun _ _ => O) ?_)
                refine dq (hv := by exact fun _ _ => sdFA) ?_
                refine dt (hv := by exact sdL) ?_
                refine dq (hv := by exact fun _ _ => O) ?_
                refine dt (hv := by exact O) ?_
                iterate 2 (refine dq (hv := by exact fun _ _ => O) ?_)
                refine dq (hv := by exact fun _ _ => sdFA) ?_
                refine dt (hv := by exact sdL) ?_
                refine dq (hv := by exact fun _ _ => O) ?_
                refine dq (hv := by exact fun _ _ => sdA) ?_
                refine dq (hv := by exact fun _ _ => (sdX (z := 1))) ?_
                refine dt (hv := by exact (by first | exact sdLG | exact sdW)) ?_
                refine dt (hv := by exact (sdX (z := 1))) ?_
                first | refine dsoG ?_ | refine dso ?_
                refine dq (hv := by exact fun _ _ => (sdX (z := 1))) ?_
                first | refine dsoG ?_ | refine dso ?_
                refine dn ?_
                refine ck2 (_) (_) (by exact trivial) (by exact ⟨rfl, rfl, rfl, trivial⟩) (by exact ⟨rfl, rfl, rfl, rfl, rfl, rfl, rfl, rfl, rfl, rfl, rfl, rfl, trivial⟩) ?_
                obtain ⟨hW1, hW2⟩ := hB (k + 1) (by omega) (by omega)
                rw [e1, e2]
                refine ⟨⟨by simp [setI], by simp [setI, hW2]⟩, fun j hj hj2 => ?_⟩
                have : j ≠ k := by omega
                simp [setI, this, hB j (by omega) hj2]
              · intro B' Fo' L1 K1 e1 e2 hI
                dsimp only [List.cons_append, List.nil_append] at e1 e2
                subst e1 e2
                obtain ⟨⟨n1, n2⟩, ho⟩ := hI
                refine sq ?_
                refine rg ?_
                iterate 2 (refine st (h := O) ?_)
                refine st (h := (sdX (z := 11))) ?_
                refine st (h := sdLN) ?_
                refine cl (h := by exact fun ι hV hl => force_C _ (at_ l k) _ hsv) ?_
                refine nl ?_
                refine cB (fun c4 => ?_) (fun c4 => ?_)
                · refine rg ?_
                  iterate 2 (refine st (h := O) ?_)
                  refine st (h := sdFA) ?_
                  refine st (h := sdL) ?_
                  iterate 2 (refine st (h := O) ?_)
                  refine st (h := (sdX (z := 1))) ?_
                  first | refine soG ?_ | refine so ?_
                  refine nl ?_
                  refine bk ?_
                  refine rg ?_
                  refine st (h := O) ?_
                  refine st (h := sdS) ?_
                  refine st (h := O) ?_
                  refine nl ?_
                  refine bk3 (_) (_) (_) (by exact ⟨rfl, trivial⟩) (by exact ⟨rfl, rfl, trivial⟩) (by exact ⟨rfl, rfl, rfl, rfl, rfl, rfl, rfl, rfl, rfl, rfl, rfl, rfl, trivial⟩) ?_ ?_
                  · omega
                  · refine ⟨by omega, by omega, fun j hj hj2 => ?_⟩
                    simp only [e1, e2] at *
                    rcases Nat.lt_or_ge k j with h | h
                    · have : j ≠ k := by omega
                      simp [setI, this, ho j h hj2]
                    · obtain rfl : j = k := by omega
                      have h9 := ho (j + 1) (by omega) (by omega)
                      simp [setI, foA_step hkl, bgA_step hkl, *]
                · refine sq ?_
                  refine rg ?_
                  iterate 2 (refine st (h := O) ?_)
                  refine st (h := (sdX (z := 11))) ?_
                  refine st (h := sdFA) ?_
                  refine st (h := sdL) ?_
                  refine st (h := O) ?_
                  refine nl ?_
                  refine cN (fun c5 => ?_) (fun c5 => ?_)
                  · refine dr 14 [22, 25, 13, 16, 19, 27] [0, 1, 2, 3, 4, 5, 6, 7, 8, 9, 10, 11, 12, 13, 1014] ?_
                    iterate 2 (refine dt (hv := by exact O) ?_)
                    refine dt (hv := by exact sdFA) ?_
                    refine dt (hv := by exact sdL) ?_
                    iterate 3 (refine dt (hv := by exact O) ?_)
                    refine dt (hv := by exact sdFA) ?_
                    refine dt (hv := by exact sdL) ?_
                    refine dt (hv := by exact O) ?_
                    refine dt (hv := by exact sdA) ?_
                    refine dt (hv := by exact (sdX (z := 1))) ?_
                    refine dt (hv := by exact (by first | exact sdLG | exact sdW)) ?_
                    refine dt (hv := by exact (sdX (z := 1))) ?_
                    first | refine dsoG ?_ | refine dso ?_
                    refine dn ?_
                    refine bk ?_
                    refine rg ?_
                    refine st (h := O) ?_
                    refine st (h := sdS) ?_
                    refine st (h := O) ?_
                    refine nl ?_
                    refine bk3 (_) (_) (_) (by exact ⟨rfl, trivial⟩) (by exact ⟨rfl, rfl, trivial⟩) (by exact ⟨rfl, rfl, rfl, rfl, rfl, rfl, rfl, rfl, rfl, rfl, rfl, rfl, trivial⟩) ?_ ?_
                    · omega
                    · refine ⟨by omega, by omega, fun j hj hj2 => ?_⟩
                      simp only [e1, e2] at *
                      rcases Nat.lt_or_ge k j with h | h
                      · have : j ≠ k := by omega
                        simp [setI, this, ho j h hj2]
                      · obtain rfl : j = k := by omega
                        have h9 := ho (j + 1) (by omega) (by omega)
                        simp [setI, foA_step hkl, bgA_step hkl, *]
                  · refine sk ?_
                    refine bk ?_
                    refine rg ?_
                    refine st (h := O) ?_
                    refine st (h := sdS) ?_
                    refine st (h := O) ?_
                    refine nl ?_
                    refine bk3 (_) (_) (_) (by exact ⟨rfl, trivial⟩) (by exact ⟨rfl, rfl, trivial⟩) (by exact ⟨rfl, rfl, rfl, rfl, rfl, rfl, rfl, rfl, rfl, rfl, rfl, rfl, trivial⟩) ?_ ?_
                    · omega
                    · refine ⟨by omega, by omega, fun j hj hj2 => ?_⟩
                      simp only [e1, e2] at *
                      rcases Nat.lt_or_ge k j with h | h
                      · have : j ≠ k := by omega
                        simp [setI, this, ho j h hj2]
                      · obtain rfl : j = k := by omega
                        have h9 := ho (j + 1) (by omega) (by omega)
                        simp [setI, foA_step hkl, bgA_step hkl, *]
          · obtain rfl : i = -1 := by omega
            refine ex ?_
            refine sq ?_
            refine rg ?_
            iterate 2 (refine st (h := O) ?_)
            refine nl ?_
            refine rtX fun ι hV G hG hY => ?_
            refine ⟨ι 27, 0, b, off, c, ι 13, 0, l.length + 1, ι 16, 0, l.length + 1, ι 19, 0, l.length + 1, ι 22, 0, l.length + 1, ι 25, 0, l.length + 1, rfl, ⟨?_, ?_, ?_, ?_, ?_, ?_⟩, hG, fun i hi => ?_⟩
            · exact hY (ι 27, Row.r ι _) (by repeat (first | exact List.mem_cons_self .. | apply List.mem_cons_of_mem)) 0 _ rfl
            · exact hY (ι 27, Row.r ι _) (by repeat (first | exact List.mem_cons_self .. | apply List.mem_cons_of_mem)) 1 _ rfl
            · exact hY (ι 27, Row.r ι _) (by repeat (first | exact List.mem_cons_self .. | apply List.mem_cons_of_mem)) 2 _ rfl
            · exact hY (ι 27, Row.r ι _) (by repeat (first | exact List.mem_cons_self .. | apply List.mem_cons_of_mem)) 3 _ rfl
            · exact hY (ι 27, Row.r ι _) (by repeat (first | exact List.mem_cons_self .. | apply List.mem_cons_of_mem)) 4 _ rfl
            · exact hY (ι 27, Row.r ι _) (by repeat (first | exact List.mem_cons_self .. | apply List.mem_cons_of_mem)) 5 _ rfl
            · obtain ⟨h1, h2, h3⟩ := hW i hi
              obtain ⟨h4, h5⟩ := hB i (by omega) hi
              simp only [Nat.zero_add, Nat.mul_one, ← h1, ← h2, ← h3, ← h4, ← h5]
              refine ⟨hY.gI (n := l.length + 1) (ι := ι) ?_ (by omega), hY.gI (n := l.length + 1) (ι := ι) ?_ (by omega), hY.gI (n := l.length + 1) (ι := ι) ?_ (by omega), hY.gI (n := l.length + 1) (ι := ι) ?_ (by omega), hY.gI (n := l.length + 1) (ι := ι) ?_ (by omega)⟩
              all_goals repeat (first | exact List.mem_cons_self .. | apply List.mem_cons_of_mem)
  · cases hg

end Go.Proofs.Ytbeblgjibfoanaa.Am
namespace Go.Proofs.Ytbeblgjibfoanaa.Am
set_option linter.unusedSimpArgs false
set_option linter.unusedVariables false
set_option maxRecDepth 100000
set_option maxHeartbeats 4000000
open Go Go.RowKit
/-- what a way's lines cost, one behind the other -/
def wayD (l : List Item) (x : Par) : List Int → Int → Int → Int → Int × Bool
  | [], _, _, sum => (sum, true)
  | b :: bs, a, cls, sum => if a < b ∧ legalB l b = true then
      (if (judD l x (a + 1).toNat b.toNat).fits = true then wayD l x bs b (judD l x (a + 1).toNat b.toNat).cls (sum + demD l x (judD l x (a + 1).toNat b.toNat).bad (judD l x (a + 1).toNat b.toNat).cls cls a b) else (0, false))
    else (0, false)
def costD (l : List Item) (at' : List Int) (x : Par) : Int × Bool :=
  if goodL l = true ∧ x.good = true ∧ 0 < at'.length ∧ ints at' (at'.length - 1) = l.length - 1 then wayD l x at' (-1) 1 0 else (0, false)
theorem legal_lt {l : List Item} {i : Int} (h : legalB l i = true) : 0 ≤ i ∧ i < l.length := by
  simp only [legalB, Bool.and_eq_true, decide_eq_true_eq] at h
  exact h.1
theorem class0 : classD 0 0 false = 1 := by decide
theorem demD_bd (l : List Item) (x : Par) (bad cls prev a b : Int) : -100000000 ≤ demD l x bad cls prev a b ∧ demD l x bad cls prev a b ≤ 223000000 := by
  have hl := lineD_bd x.line bad (costA l b)
  have hm := moreD_bd prev cls (flagA l a) (flagA l b) x
  unfold demD
  omega
theorem wayD_step {l : List Item} {x : Par} {b a cls sum : Int} {bs : List Int} (h : a < b ∧ legalB l b = true) (hf : (judD l x (a + 1).toNat b.toNat).fits = true) : wayD l x (b :: bs) a cls sum = wayD l x bs b (judD l x (a + 1).toNat b.toNat).cls (sum + demD l x (judD l x (a + 1).toNat b.toNat).bad (judD l x (a + 1).toNat b.toNat).cls cls a b) := by
  simp only [wayD, h, and_self, if_true, hf]
theorem wayD_bad {l : List Item} {x : Par} {b a cls sum : Int} {bs : List Int} (h : ¬ (a < b ∧ legalB l b = true)) : wayD l x (b :: bs) a cls sum = (0, false) := by
  simp only [wayD, h, if_false]
theorem wayD_off {l : List Item} {x : Par} {b a cls sum : Int} {bs : List Int} (hf : ¬ (judD l x (a + 1).toNat b.toNat).fits = true) : wayD l x (b :: bs) a cls sum = (0, false) := by
  simp only [wayD, hf, Bool.false_eq_true, if_false, ite_self]
theorem drop_cons {xs : List Int} {k : Nat} (h : k < xs.length) : xs.drop k = ints xs k :: xs.drop (k + 1) := by
  rw [List.drop_eq_getElem_cons h]
  simp [ints, List.getD_eq_getElem?_getD, List.getElem?_eq_getElem h]
theorem Cost_C (F : Mem) (v u : Value) (l : List Item) (at' : List Int) (x : Par) (hv : RItems F v l) (hu : RInts F u at') : C0 Try.prog 30 [v, u, x.v] F (.tuple #[.int .i64 (costD l at' x).1, .bool (costD l at' x).2]) := by
  have hcd : ¬ (goodL l = true ∧ x.good = true ∧ 0 < at'.length ∧ ints at' (at'.length - 1) = l.length - 1) → costD l at' x = (0, false) := fun h => by simp only [costD, h, if_false]
  have hcg : (goodL l = true ∧ x.good = true ∧ 0 < at'.length ∧ ints at' (at'.length - 1) = l.length - 1) → costD l at' x = wayD l x at' (-1) 1 0 := fun h => by simp only [costD, h, and_self, if_true]
  rcases hv.forms with ⟨vb, vo, vc, rfl⟩ | ⟨rfl, rfl⟩
  · rcases hu with ⟨ab, ao, ac, rfl, hal, har⟩ | ⟨rfl, rfl⟩
    · have hlast : 0 < at'.length → look F ⟨ab, ao + ((at'.length : Int) - 1).toNat * 1, none⟩ = some (.int .i64 (ints at' (at'.length - 1))) := fun h => by
        rw [Nat.mul_one]
        have := har (at'.length - 1) _ (ints_get (by omega))
        rwa [show ((at'.length : Int) - 1).toNat = at'.length - 1 from by omega]
      have hix : ∀ k, k < at'.length → look F ⟨ab, ao + (k : Int).toNat * 1, none⟩ = some (.int .i64 (ints at' k)) := fun k h => by
        rw [Nat.mul_one]
        exact har k _ (ints_get h)
      obtain ⟨xw, tol, line, twice, odd⟩ := x
      dsimp only [Par.v]
      refine C.go hT Try.func30 Try.ntmps30 ?_
      refine sq ?_
      refine rg ?_
      refine bx ?_
      iterate 2 (refine st (h := O) ?_)
      refine nl ?_
      iterate 2 (refine sq ?_)
      refine rg ?_
      refine st (h := O) ?_
      refine cl (h := by exact fun ι hV hl => IGood_C _ _ l (hv.le hl)) ?_
      iterate 2 (refine st (h := O) ?_)
      refine gB (fun g18 => ?_) (fun g18 => ?_)
      · refine sp ?_
        iterate 2 (refine sp ?_)
        iterate 2 (refine st (h := O) ?_)
        iterate 3 (refine sp ?_)
        iterate 2 (refine st (h := O) ?_)
        iterate 10 (refine sp ?_)
        refine st (h := O) ?_
        refine nl ?_
        refine cT ?_
        refine sq ?_
        refine rg ?_
        iterate 2 (refine st (h := O) ?_)
        refine nl ?_
        refine rt ⟨?_, rfl⟩
        rw [hcd (by rintro ⟨h, -⟩; simp [h] at g18)]
      · have hlen := good_len (l := l) (by simpa using g18)
        refine sg (h := sdLN) ?_
        refine clg (h := by exact fun ι hV hl => Good_C _ ⟨xw, tol, line, twice, odd⟩) ?_
        refine sg (h := O) ?_
        iterate 2 (refine st (h := O) ?_)
        refine gB (fun g23 => ?_) (fun g23 => ?_)
        · refine sp ?_
          iterate 2 (refine sp ?_)
          iterate 2 (refine st (h := O) ?_)
          iterate 10 (refine sp ?_)
          refine st (h := O) ?_
          refine nl ?_
          refine cT ?_
          refine sq ?_
          refine rg ?_
          iterate 2 (refine st (h := O) ?_)
          refine nl ?_
          refine rt ⟨?_, rfl⟩
          rw [hcd (by rintro ⟨-, h, -⟩; simp [h] at g23)]
        · refine sg (h := O) ?_
          iterate 2 (refine sg (h := O) ?_)
          iterate 2 (refine st (h := O) ?_)
          refine gD (fun g28 => ?_) (fun g28 => ?_)
          · refine sp ?_
            iterate 9 (refine sp ?_)
            refine st (h := O) ?_
            refine nl ?_
            refine cT ?_
            refine sq ?_
            refine rg ?_
            iterate 2 (refine st (h := O) ?_)
            refine nl ?_
            refine rt ⟨?_, rfl⟩
            rw [hcd (by simp; omega)]
          · have hpos : 0 < at'.length := by omega
            have hlk := hlast hpos
            iterate 3 (refine sg (h := O) ?_)
            refine sg (h := sdS) ?_
            refine sg (h := (sdX (z := 1))) ?_
            refine sg (h := (by first | exact sdLG | exact sdW)) ?_
            iterate 2 (refine sg (h := O) ?_)
            refine sg (h := sdS) ?_
            refine sg (h := O) ?_
            refine st (h := O) ?_
            refine nl ?_
            refine cN (fun c0 => ?_) (fun c0 => ?_)
            · refine sq ?_
              refine rg ?_
              iterate 2 (refine st (h := O) ?_)
              refine nl ?_
              refine rt ⟨?_, rfl⟩
              rw [hcd (by simp only [not_and]; intros; omega)]
            · have hgl : goodL l = true := by simpa using g18
              have hgx : Par.good ⟨xw, tol, line, twice, odd⟩ = true := by simpa using g23
              rw [hcg ⟨hgl, hgx, hpos, by omega⟩]
              clear hcd hcg hlk hlast
              refine sk ?_
              refine sq ?_
              refine rg ?_
              refine st (h := O) ?_
              refine clC (h := by exact fun ι hV hl => ready_C _ (.slice (some ⟨vb, vo, none⟩) l.length vc) l (hv.le hl) hgl) ?_
              intro p Y hQ hpv hpp hN
              have hp := hQ _ (hv.le hN.le) hN.rows
              obtain ⟨pb, po, lb, lo, lc, wb, wo, wc, yb, yo, yc, zb, zo, zc, bb, bo, bc, fb, fo, fc, rfl, hp2⟩ := id hp
              clear hp2
              replace hix : ∀ k, k < at'.length → look (F.add Y) ⟨ab, ao + (k : Int).toNat * 1, none⟩ = some (.int .i64 (ints at' k)) := fun k hk => hN.le _ _ (hix k hk)
              refine st (h := O) ?_
              refine nl ?_
              refine sq ?_
              refine rg ?_
              refine cl (h := by exact fun ι hV hl => Class_C _ _ _ _) ?_
              rw [class0]
              iterate 3 (refine st (h := O) ?_)
              refine nl ?_
              iterate 2 (refine sq ?_)
              refine rg ?_
              iterate 3 (refine st (h := O) ?_)
              refine nl ?_
              refine bl ?_
              refine J.loop4 (α := Nat) (β := Int) (γ := Int) (δ := Int) (fun k a cls sum => k ≤ at'.length ∧ -1 ≤ a ∧ a < l.length ∧ (k : Int) ≤ a + 1 ∧ (-100000000 * (k : Int) ≤ sum ∧ sum ≤ 223000000 * (k : Int)) ∧ wayD l ⟨xw, tol, line, twice, odd⟩ (at'.drop k) a cls sum = wayD l ⟨xw, tol, line, twice, odd⟩ at' (-1) 1 0) (fun k a cls sum => [(9, .int .i64 sum), (10, .int .i64 a), (11, .int .i64 cls), (45, .int .i64 k)]) [(5, _), (8, _), (43, _), (44, _)] (fun k a cls sum => []) [(5, _)] (fun k a cls sum => at'.length - k) (0) (-1) (1) (0) (by exact ⟨rfl, rfl, rfl, rfl, trivial⟩) (by exact ⟨rfl, rfl, rfl, rfl, trivial⟩) (by exact ⟨rfl, rfl, trivial⟩) ?_ ?_
              · exact ⟨by omega, by omega, by omega, by omega, by omega, rfl⟩
              · intro k a cls sum L1 K1 e1 e2 hI
                dsimp only [apV, apR, List.cons_append, List.nil_append] at e1 e2
                subst e1 e2
                obtain ⟨hk, ha, hal2, hka, hsum, hway⟩ := hI
                refine sq ?_
                refine rg ?_
                refine st (h := O) ?_
                refine nl ?_
                refine sq ?_
                refine cD (fun c1 => ?_) (fun c1 => ?_)
                · have hkl : k < at'.length := by omega
                  have hlk := hix k hkl
                  rw [drop_cons hkl] at hway
                  generalize ints at' k = b at *
                  refine sk ?_
                  refine sq ?_
                  refine bl ?_
                  refine sq ?_
                  refine rg ?_
                  refine st (h := (sdX (z := 1))) ?_
                  refine st (h := (by first | exact sdLG | exact sdW)) ?_
                  refine st (h := O) ?_
                  refine nl ?_
                  iterate 2 (refine sq ?_)
                  refine rg ?_
                  iterate 4 (refine st (h := O) ?_)
                  refine gD (fun g52 => ?_) (fun g52 => ?_)
                  · refine sp ?_
                    iterate 3 (refine sp ?_)
                    refine st (h := O) ?_
                    refine nl ?_
                    refine cT ?_
                    refine sq ?_
                    refine rg ?_
                    iterate 2 (refine st (h := O) ?_)
                    refine nl ?_
                    refine J.dropF ?_
                    refine rt ⟨?_, rfl⟩
                    rw [← hway, wayD_bad (by omega)]
                  · refine sg (h := O) ?_
                    refine sg (h := O) ?_
                    refine clg (h := by exact fun ι hV hl => legal_C _ _ l _ (hp.le hl).head) ?_
                    refine sg (h := O) ?_
                    refine st (h := O) ?_
                    refine nl ?_
                    refine cB (fun c2 => ?_) (fun c2 => ?_)
                    · refine sq ?_
                      refine rg ?_
                      iterate 2 (refine st (h := O) ?_)
                      refine nl ?_
                      refine J.dropF ?_
                      refine rt ⟨?_, rfl⟩
                      have hb2 : legalB l b = false := by simpa using c2
                      rw [← hway, wayD_bad (by simp [hb2])]
                    · have hleg : legalB l b = true := by simpa using c2
                      have hb := legal_lt hleg
                      obtain ⟨a1, ha1⟩ := Int.eq_ofNat_of_zero_le (show (0 : Int) ≤ a + 1 by omega)
                      obtain ⟨b1, hb1⟩ := Int.eq_ofNat_of_zero_le hb.1
                      subst hb1
                      refine sk ?_
                      refine sq ?_
                      refine rg ?_
                      iterate 3 (refine st (h := O) ?_)
                      refine st (h := sdLN) ?_
                      refine cl (h := by exact fun ι hV hl => judge_C _ _ l a a1 b1 ⟨xw, tol, line, twice, odd⟩ (hp.le hl) hgl ha1 (by omega) (by omega) hgx) ?_
                      refine al ?_
                      refine so ?_
                      refine nl ?_
                      iterate 2 (refine sq ?_)
                      refine rg ?_
                      refine st (h := sdFA) ?_
                      refine st (h := sdL) ?_
                      refine st (h := O) ?_
                      refine nl ?_
                      refine cB (fun c3 => ?_) (fun c3 => ?_)
                      · refine sq ?_
                        refine rg ?_
                        iterate 2 (refine st (h := O) ?_)
                        refine nl ?_
                        refine J.dropF ?_
                        refine rt ⟨?_, rfl⟩
                        rw [← hway, wayD_off (by simpa [ha1] using c3)]
                      · refine sk ?_
                        refine sq ?_
                        refine rg ?_
                        iterate 2 (refine st (h := O) ?_)
                        refine st (h := sdLN) ?_
                        iterate 3 (refine st (h := O) ?_)
                        refine st (h := sdLN) ?_
                        refine cl (h := by exact fun ι hV hl => demerits_C _ _ l _ _ _ _ _ _ _ _ _ ⟨xw, tol, line, twice, odd⟩ (hp.le hl) (by omega) (by omega)) ?_
                        have hdb := demD_bd l ⟨xw, tol, line, twice, odd⟩ (judD l ⟨xw, tol, line, twice, odd⟩ a1 b1).bad (judD l ⟨xw, tol, line, twice, odd⟩ a1 b1).cls cls a b1
                        refine st (h := sdA) ?_
                        refine st (h := O) ?_
                        refine nl ?_
                        refine dr 5 [14, 5] [0, 1, 2, 3, 4] ?_
                        refine dt (hv := by exact O) ?_
                        refine dt (hv := by exact sdFA) ?_
                        refine dt (hv := by exact sdL) ?_
                        iterate 2 (refine dt (hv := by exact O) ?_)
                        refine dn ?_
                        refine bk ?_
                        refine rg ?_
                        refine st (h := sdA) ?_
                        refine st (h := O) ?_
                        refine nl ?_
                        refine bk4 (k + 1) (_) (_) (_) (by exact ⟨rfl, rfl, rfl, rfl, trivial⟩) (by exact ⟨rfl, rfl, rfl, rfl, trivial⟩) (by exact ⟨rfl, rfl, trivial⟩) ?_ ?_
                        · omega
                        · refine ⟨by omega, by omega, by omega, by omega, by omega, ?_⟩
                          rw [← hway, wayD_step ⟨by omega, hleg⟩ (by simpa [ha1] using c3)]
                          simp only [ha1, Int.toNat_natCast]
                · have hkl : k = at'.length := by omega
                  subst hkl
                  rw [List.drop_length] at hway
                  refine ex ?_
                  refine sq ?_
                  refine rg ?_
                  iterate 3 (refine st (h := O) ?_)
                  refine nl ?_
                  refine J.dropF ?_
                  refine rt ⟨?_, rfl⟩
                  rw [← hway]; rfl
    · obtain ⟨xw, tol, line, twice, odd⟩ := x
      dsimp only [Par.v]
      refine C.go hT Try.func30 Try.ntmps30 ?_
      refine sq ?_
      refine rg ?_
      refine bx ?_
      iterate 2 (refine st (h := O) ?_)
      refine nl ?_
      iterate 2 (refine sq ?_)
      refine rg ?_
      refine st (h := O) ?_
      refine cl (h := by exact fun ι hV hl => IGood_C _ _ l (hv.le hl)) ?_
      iterate 2 (refine st (h := O) ?_)
      refine gB (fun g18 => ?_) (fun g18 => ?_)
      · refine sp ?_
        iterate 2 (refine sp ?_)
        iterate 2 (refine st (h := O) ?_)
        iterate 3 (refine sp ?_)
        iterate 2 (refine st (h := O) ?_)
        iterate 10 (refine sp ?_)
        refine st (h := O) ?_
        refine nl ?_
        refine cT ?_
        refine sq ?_
        refine rg ?_
        iterate 2 (refine st (h := O) ?_)
        refine nl ?_
        exact rt ⟨by rw [hcd (by simp)], rfl⟩
      · refine sg (h := sdLN) ?_
        refine clg (h := by exact fun ι hV hl => Good_C _ ⟨xw, tol, line, twice, odd⟩) ?_
        refine sg (h := O) ?_
        iterate 2 (refine st (h := O) ?_)
        refine gB (fun g23 => ?_) (fun g23 => ?_)
        · refine sp ?_
          iterate 2 (refine sp ?_)
          iterate 2 (refine st (h := O) ?_)
          iterate 10 (refine sp ?_)
          refine st (h := O) ?_
          refine nl ?_
          refine cT ?_
          refine sq ?_
          refine rg ?_
          iterate 2 (refine st (h := O) ?_)
          refine nl ?_
          exact rt ⟨by rw [hcd (by simp)], rfl⟩
        · refine sg (h := O) ?_
          iterate 2 (refine sg (h := O) ?_)
          iterate 2 (refine st (h := O) ?_)
          refine gD (fun g28 => ?_) (fun g28 => ?_)
          · refine sp ?_
            iterate 9 (refine sp ?_)
            refine st (h := O) ?_
            refine nl ?_
            refine cT ?_
            refine sq ?_
            refine rg ?_
            iterate 2 (refine st (h := O) ?_)
            refine nl ?_
            exact rt ⟨by rw [hcd (by simp)], rfl⟩
          · exact absurd rfl g28
  · have hsl : (∃ b o n c, u = .slice (some ⟨b, o, none⟩) n c) ∨ ∃ n c, u = .slice none n c := hu.sl
    obtain ⟨xw, tol, line, twice, odd⟩ := x
    dsimp only [Par.v]
    rcases hsl with ⟨b, o, n, c, rfl⟩ | ⟨n, c, rfl⟩
    all_goals
      refine C.go hT Try.func30 Try.ntmps30 ?_
      refine sq ?_
      refine rg ?_
      refine bx ?_
      iterate 2 (refine st (h := O) ?_)
      refine nl ?_
      iterate 2 (refine sq ?_)
      refine rg ?_
      refine st (h := O) ?_
      refine cl (h := by exact fun ι hV hl => IGood_C _ _ [] (hv.le hl)) ?_
      iterate 2 (refine st (h := O) ?_)
      refine gB (fun g18 => ?_) (fun g18 => ?_)
      · refine sp ?_
        iterate 2 (refine sp ?_)
        iterate 2 (refine st (h := O) ?_)
        iterate 3 (refine sp ?_)
        iterate 2 (refine st (h := O) ?_)
        iterate 10 (refine sp ?_)
        refine st (h := O) ?_
        refine nl ?_
        refine cT ?_
        refine sq ?_
        refine rg ?_
        iterate 2 (refine st (h := O) ?_)
        refine nl ?_
        exact rt ⟨by rw [hcd (by rintro ⟨h, -⟩; cases h)], rfl⟩
      · cases g18
/-- of a line that may be: what it measures -/
def lineB (l : List Item) (a b : Int) : Bool := goodL l && legalB l b && decide (a < b) && (decide (a = -1) || legalB l a)
def measD (l : List Item) (a b : Int) : Int × Int × Int := if lineB l a b = true then (mW l (a + 1).toNat b.toNat, mY l (a + 1).toNat b.toNat, mZ l (a + 1).toNat b.toNat) else (0, 0, 0)
theorem lineB_no {l : List Item} {a b : Int} (h : ¬ lineB l a b = true) : measD l a b = (0, 0, 0) := by simp [measD, h]
theorem lineB_iff {l : List Item} {a b : Int} : lineB l a b = true ↔ ((goodL l && legalB l b) = true ∧ a < b ∧ (a = -1 ∨ (goodL l && legalB l a) = true)) := by
  simp only [lineB, Bool.and_eq_true, Bool.or_eq_true, decide_eq_true_eq]
  constructor
  · rintro ⟨⟨⟨h1, h2⟩, h3⟩, h4⟩; exact ⟨⟨h1, h2⟩, h3, h4.imp id fun h => ⟨h1, h⟩⟩
  · rintro ⟨⟨h1, h2⟩, h3, h4⟩; exact ⟨⟨⟨h1, h2⟩, h3⟩, h4.imp id fun h => h.2⟩
theorem lineB_facts {l : List Item} {a b : Int} (h : lineB l a b = true) : goodL l = true ∧ 0 ≤ b ∧ b < l.length ∧ -1 ≤ a ∧ a < b := by
  simp only [lineB, Bool.and_eq_true, Bool.or_eq_true, decide_eq_true_eq] at h
  obtain ⟨⟨⟨h1, h2⟩, h3⟩, h4⟩ := h
  have := legal_lt h2
  rcases h4 with h4 | h4
  · exact ⟨h1, by omega, by omega, by omega, h3⟩
  · have := legal_lt h4
    exact ⟨h1, by omega, by omega, by omega, h3⟩
theorem not_of {b : Bool} (h : (!b) = true) : ¬ b = true := by simpa using h
theorem of_not {b : Bool} (h : (!b) = false) : b = true := by simpa using h
theorem Measure_C (F : Mem) (v : Value) (l : List Item) (a b : Int) (hv : RItems F v l) : C0 Try.prog 25 [v, .int .i64 a, .int .i64 b] F (.tuple #[.int .i64 (measD l a b).1, .int .i64 (measD l a b).2.1, .int .i64 (measD l a b).2.2]) := by
  rcases hv.forms with ⟨vb, vo, vc, rfl⟩ | ⟨rfl, rfl⟩
  ·
    refine C.go hT Try.func25 Try.ntmps25 ?_
    refine sq ?_
    refine rg ?_
    iterate 3 (refine st (h := O) ?_)
    refine nl ?_
    iterate 2 (refine sq ?_)
    refine rg ?_
    iterate 2 (refine st (h := O) ?_)
    refine cl (h := by exact fun ι hV hl => Legal_C _ _ l _ (hv.le hl)) ?_
    iterate 2 (refine st (h := O) ?_)
    refine gB (fun g14 => ?_) (fun g14 => ?_)
    · refine sp ?_
      iterate 2 (refine sp ?_)
      iterate 2 (refine st (h := O) ?_)
      iterate 3 (refine sp ?_)
      iterate 4 (refine su ?_)
      refine sp ?_
      refine st (h := O) ?_
      refine nl ?_
      refine cT ?_
      refine sq ?_
      refine rg ?_
      iterate 3 (refine st (h := O) ?_)
      refine nl ?_
      refine rt ⟨?_, rfl⟩
      rw [lineB_no (fun h => not_of g14 (lineB_iff.1 h).1)]
    · refine sg (h := O) ?_
      iterate 2 (refine sg (h := O) ?_)
      iterate 2 (refine st (h := O) ?_)
      refine gD (fun g19 => ?_) (fun g19 => ?_)
      · refine sp ?_
        iterate 2 (refine sp ?_)
        iterate 4 (refine su ?_)
        refine sp ?_
        refine st (h := O) ?_
        refine nl ?_
        refine cT ?_
        refine sq ?_
        refine rg ?_
        iterate 3 (refine st (h := O) ?_)
        refine nl ?_
        refine rt ⟨?_, rfl⟩
        rw [lineB_no (fun h => by have := (lineB_iff.1 h).2.1; omega)]
      · refine sg (h := O) ?_
        iterate 2 (refine sg (h := O) ?_)
        refine gN (fun g22 => ?_) (fun g22 => ?_)
        · refine sg (h := O) ?_
          refine sg (h := O) ?_
          refine clg (h := by exact fun ι hV hl => Legal_C _ _ l _ (hv.le hl)) ?_
          iterate 2 (refine sg (h := O) ?_)
          refine st (h := O) ?_
          refine nl ?_
          refine cB (fun c0 => ?_) (fun c0 => ?_)
          · refine sq ?_
            refine rg ?_
            iterate 3 (refine st (h := O) ?_)
            refine nl ?_
            refine rt ⟨?_, rfl⟩
            rw [lineB_no (fun h => by rcases (lineB_iff.1 h).2.2 with h | h; · exact absurd h (by omega)
                                      · exact not_of c0 h)]
          · have hB : lineB l a b = true := lineB_iff.2 ⟨of_not g14, by omega, by first | exact .inr (of_not c0) | exact .inl (by omega)⟩
            obtain ⟨hgl, hb0, hbl, ha0, hab⟩ := lineB_facts hB
            obtain ⟨a1, ha1⟩ := Int.eq_ofNat_of_zero_le (show (0 : Int) ≤ a + 1 by omega)
            obtain ⟨b1, rfl⟩ := Int.eq_ofNat_of_zero_le hb0
            refine sk ?_
            refine sq ?_
            refine rg ?_
            refine st (h := O) ?_
            refine clC (h := by exact fun ι hV hl => ready_C _ (.slice (some ⟨vb, vo, none⟩) l.length vc) l (hv.le hl) hgl) ?_
            intro p Y hQ hpv hpp hN
            have hp := hQ _ (hv.le hN.le) hN.rows
            obtain ⟨pb, po, lb, lo, lc, wb, wo, wc, yb, yo, yc, zb, zo, zc, bb, bo, bc, fb, fo, fc, rfl, hp2⟩ := id hp
            clear hp2
            iterate 2 (refine st (h := O) ?_)
            refine cl (h := by exact fun ι hV hl => measure_C _ _ l a a1 b1 (hp.le hl) hgl ha1 (by omega) (by omega)) ?_
            refine al ?_
            refine so ?_
            refine nl ?_
            refine sq ?_
            refine dr 9 [9] [0, 1, 2, 3, 4, 5, 6, 7, 8] ?_
            refine dt (hv := by exact sdFA) ?_
            refine dt (hv := by exact sdL) ?_
            refine dt (hv := by exact sdFA) ?_
            refine dt (hv := by exact sdL) ?_
            refine dt (hv := by exact sdFA) ?_
            refine dt (hv := by exact sdL) ?_
            iterate 3 (refine dt (hv := by exact O) ?_)
            refine dn ?_
            refine J.dropF ?_
            refine rt ⟨?_, rfl⟩
            simp only [measD, if_pos hB, ha1, Int.toNat_natCast]
        · have hB : lineB l a b = true := lineB_iff.2 ⟨of_not g14, by omega, by first | exact .inr (of_not c0) | exact .inl (by omega)⟩
          obtain ⟨hgl, hb0, hbl, ha0, hab⟩ := lineB_facts hB
          obtain ⟨a1, ha1⟩ := Int.eq_ofNat_of_zero_le (show (0 : Int) ≤ a + 1 by omega)
          obtain ⟨b1, rfl⟩ := Int.eq_ofNat_of_zero_le hb0
          iterate 4 (refine sp ?_)
          refine sg (h := O) ?_
          refine st (h := O) ?_
          refine nl ?_
          refine cF ?_
          refine sk ?_
          refine sq ?_
          refine rg ?_
          refine st (h := O) ?_
          refine clC (h := by exact fun ι hV hl => ready_C _ (.slice (some ⟨vb, vo, none⟩) l.length vc) l (hv.le hl) hgl) ?_
          intro p Y hQ hpv hpp hN
          have hp := hQ _ (hv.le hN.le) hN.rows
          obtain ⟨pb, po, lb, lo, lc, wb, wo, wc, yb, yo, yc, zb, zo, zc, bb, bo, bc, fb, fo, fc, rfl, hp2⟩ := id hp
          clear hp2
          iterate 2 (refine st (h := O) ?_)
          refine cl (h := by exact fun ι hV hl => measure_C _ _ l a a1 b1 (hp.le hl) hgl ha1 (by omega) (by omega)) ?_
          refine al ?_
          refine so ?_
          refine nl ?_
          refine sq ?_
          refine dr 9 [9] [0, 1, 2, 3, 4, 5, 6, 7, 8] ?_
          refine dt (hv := by exact sdFA) ?_
          refine dt (hv := by exact sdL) ?_
          refine dt (hv := by exact sdFA) ?_
          refine dt (hv := by exact sdL) ?_
          refine dt (hv := by exact sdFA) ?_
          refine dt (hv := by exact sdL) ?_
          iterate 3 (refine dt (hv := by exact O) ?_)
          refine dn ?_
          refine J.dropF ?_
          refine rt ⟨?_, rfl⟩
          simp only [measD, if_pos hB, ha1, Int.toNat_natCast]
  · have h0 : measD [] a b = (0, 0, 0) := lineB_no (fun h => by cases (lineB_facts h).1)
    rw [h0]
    refine C.go hT Try.func25 Try.ntmps25 ?_
    refine sq ?_
    refine rg ?_
    iterate 3 (refine st (h := O) ?_)
    refine nl ?_
    iterate 2 (refine sq ?_)
    refine rg ?_
    iterate 2 (refine st (h := O) ?_)
    refine cl (h := by exact fun ι hV hl => Legal_C _ _ [] _ (hv.le hl)) ?_
    iterate 2 (refine st (h := O) ?_)
    refine gB (fun g14 => ?_) (fun g14 => ?_)
    · refine sp ?_
      iterate 2 (refine sp ?_)
      iterate 2 (refine st (h := O) ?_)
      iterate 3 (refine sp ?_)
      iterate 4 (refine su ?_)
      refine sp ?_
      refine st (h := O) ?_
      refine nl ?_
      refine cT ?_
      refine sq ?_
      refine rg ?_
      iterate 3 (refine st (h := O) ?_)
      refine nl ?_
      exact rt ⟨rfl, rfl⟩
    · cases of_not g14
def fitsD (l : List Item) (a b : Int) (x : Par) : Bool := x.good && lineB l a b && (judD l x (a + 1).toNat b.toNat).fits
theorem Fits_C (F : Mem) (v : Value) (l : List Item) (a b : Int) (x : Par) (hv : RItems F v l) : C0 Try.prog 24 [v, .int .i64 a, .int .i64 b, x.v] F (.bool (fitsD l a b x)) := by
  have hno : ¬ lineB l a b = true → fitsD l a b x = false := fun h => by simp [fitsD, h]
  have hno2 : ¬ x.good = true → fitsD l a b x = false := fun h => by simp [fitsD, h]
  have hye : x.good = true → lineB l a b = true → fitsD l a b x = (judD l x (a + 1).toNat b.toNat).fits := fun h1 h2 => by simp [fitsD, h1, h2]
  obtain ⟨xw, tol, line, twice, odd⟩ := x
  dsimp only [Par.v]
  rcases hv.forms with ⟨vb, vo, vc, rfl⟩ | ⟨rfl, rfl⟩
  ·
    refine C.go hT Try.func24 Try.ntmps24 ?_
    refine sq ?_
    refine rg ?_
    refine bx ?_
    refine st (h := O) ?_
    refine nl ?_
    iterate 2 (refine sq ?_)
    refine rg ?_
    refine st (h := sdLN) ?_
    refine cl (h := by exact fun ι hV hl => Good_C _ ⟨xw, tol, line, twice, odd⟩) ?_
    iterate 2 (refine st (h := O) ?_)
    refine gB (fun g12 => ?_) (fun g12 => ?_)
    · refine sp ?_
      iterate 3 (refine sp ?_)
      iterate 2 (refine st (h := O) ?_)
      iterate 3 (refine sp ?_)
      iterate 2 (refine st (h := O) ?_)
      iterate 3 (refine sp ?_)
      iterate 4 (refine su ?_)
      refine sp ?_
      refine st (h := O) ?_
      refine nl ?_
      refine cT ?_
      refine sq ?_
      refine rg ?_
      refine st (h := O) ?_
      refine nl ?_
      refine rt ⟨?_, rfl⟩
      rw [hno2 (not_of g12)]
    · refine sg (h := O) ?_
      refine sg (h := O) ?_
      refine clg (h := by exact fun ι hV hl => Legal_C _ _ l _ (hv.le hl)) ?_
      refine sg (h := O) ?_
      iterate 2 (refine st (h := O) ?_)
      refine gB (fun g18 => ?_) (fun g18 => ?_)
      · refine sp ?_
        iterate 2 (refine sp ?_)
        iterate 2 (refine st (h := O) ?_)
        iterate 3 (refine sp ?_)
        iterate 4 (refine su ?_)
        refine sp ?_
        refine st (h := O) ?_
        refine nl ?_
        refine cT ?_
        refine sq ?_
        refine rg ?_
        refine st (h := O) ?_
        refine nl ?_
        refine rt ⟨?_, rfl⟩
        rw [hno (fun h => not_of g18 (lineB_iff.1 h).1)]
      · refine sg (h := O) ?_
        iterate 2 (refine sg (h := O) ?_)
        iterate 2 (refine st (h := O) ?_)
        refine gD (fun g23 => ?_) (fun g23 => ?_)
        · refine sp ?_
          iterate 2 (refine sp ?_)
          iterate 4 (refine su ?_)
          refine sp ?_
          refine st (h := O) ?_
          refine nl ?_
          refine cT ?_
          refine sq ?_
          refine rg ?_
          refine st (h := O) ?_
          refine nl ?_
          refine rt ⟨?_, rfl⟩
          rw [hno (fun h => by have := (lineB_iff.1 h).2.1; omega)]
        · refine sg (h := O) ?_
          iterate 2 (refine sg (h := O) ?_)
          refine gN (fun g26 => ?_) (fun g26 => ?_)
          · refine sg (h := O) ?_
            refine sg (h := O) ?_
            refine clg (h := by exact fun ι hV hl => Legal_C _ _ l _ (hv.le hl)) ?_
            iterate 2 (refine sg (h := O) ?_)
            refine st (h := O) ?_
            refine nl ?_
            refine cB (fun c0 => ?_) (fun c0 => ?_)
            · refine sq ?_
              refine rg ?_
              refine st (h := O) ?_
              refine nl ?_
              refine rt ⟨?_, rfl⟩
              rw [hno (fun h => by rcases (lineB_iff.1 h).2.2 with h | h; · exact absurd h (by omega)
                                   · exact not_of c0 h)]
            · have hB : lineB l a b = true := lineB_iff.2 ⟨of_not g18, by omega, by first | exact .inr (of_not c0) | exact .inl (by omega)⟩
              obtain ⟨hgl, hb0, hbl, ha0, hab⟩ := lineB_facts hB
              obtain ⟨a1, ha1⟩ := Int.eq_ofNat_of_zero_le (show (0 : Int) ≤ a + 1 by omega)
              obtain ⟨b1, rfl⟩ := Int.eq_ofNat_of_zero_le hb0
              refine sk ?_
              refine sq ?_
              refine dr 8 [7] [0, 2, 3, 4, 1001, 1005, 6, 7] ?_
              iterate 3 (refine dt (hv := by exact O) ?_)
              refine dt (hv := by exact sdLN) ?_
              refine dclC (hkp := by first | exact Kept.all | exact Kept.k0 | exact Kept.kY) (h := by exact fun ι hV hl => ready_C _ (.slice (some ⟨vb, vo, none⟩) l.length vc) l (hv.le hl) hgl) ?_
              intro p Y hQ hpv hpp hN
              have hp := hQ _ (hv.le hN.le) hN.rows
              obtain ⟨pb, po, lb, lo, lc, wb, wo, wc, yb, yo, yc, zb, zo, zc, bb, bo, bc, fb, fo, fc, rfl, hp2⟩ := id hp
              clear hp2
              refine dcl (hkp := by first | exact Kept.all | exact Kept.k0 | exact Kept.kY) (h := by exact fun ι hV hl => judge_C _ _ l a a1 b1 ⟨xw, tol, line, twice, odd⟩ (hp.le hl) hgl ha1 (by omega) (by omega) (of_not g12)) ?_
              iterate 2 (refine dt (hv := by exact O) ?_)
              refine dn ?_
              refine J.dropF ?_
              refine rt ⟨?_, rfl⟩
              rw [hye (of_not g12) hB]
              simp only [ha1, Int.toNat_natCast]
          · have hB : lineB l a b = true := lineB_iff.2 ⟨of_not g18, by omega, by first | exact .inr (of_not c0) | exact .inl (by omega)⟩
            obtain ⟨hgl, hb0, hbl, ha0, hab⟩ := lineB_facts hB
            obtain ⟨a1, ha1⟩ := Int.eq_ofNat_of_zero_le (show (0 : Int) ≤ a + 1 by omega)
            obtain ⟨b1, rfl⟩ := Int.eq_ofNat_of_zero_le hb0
            iterate 4 (refine sp ?_)
            refine sg (h := O) ?_
            refine st (h := O) ?_
            refine nl ?_
            refine cF ?_
            refine sk ?_
            refine sq ?_
            refine dr 8 [7] [0, 2, 3, 4, 1001, 1005, 6, 7] ?_
            iterate 3 (refine dt (hv := by exact O) ?_)
            refine dt (hv := by exact sdLN) ?_
            refine dclC (hkp := by first | exact Kept.all | exact Kept.k0 | exact Kept.kY) (h := by exact fun ι hV hl => ready_C _ (.slice (some ⟨vb, vo, none⟩) l.length vc) l (hv.le hl) hgl) ?_
            intro p Y hQ hpv hpp hN
            have hp := hQ _ (hv.le hN.le) hN.rows
            obtain ⟨pb, po, lb, lo, lc, wb, wo, wc, yb, yo, yc, zb, zo, zc, bb, bo, bc, fb, fo, fc, rfl, hp2⟩ := id hp
            clear hp2
            refine dcl (hkp := by first | exact Kept.all | exact Kept.k0 | exact Kept.kY) (h := by exact fun ι hV hl => judge_C _ _ l a a1 b1 ⟨xw, tol, line, twice, odd⟩ (hp.le hl) hgl ha1 (by omega) (by omega) (of_not g12)) ?_
            iterate 2 (refine dt (hv := by exact O) ?_)
            refine dn ?_
            refine J.dropF ?_
            refine rt ⟨?_, rfl⟩
            rw [hye (of_not g12) hB]
            simp only [ha1, Int.toNat_natCast]
  · have h0 := hno (fun h => by cases (lineB_facts h).1)
    rw [h0]
    refine C.go hT Try.func24 Try.ntmps24 ?_
    refine sq ?_
    refine rg ?_
    refine bx ?_
    refine st (h := O) ?_
    refine nl ?_
    iterate 2 (refine sq ?_)
    refine rg ?_
    refine st (h := sdLN) ?_
    refine cl (h := by exact fun ι hV hl => Good_C _ ⟨xw, tol, line, twice, odd⟩) ?_
    iterate 2 (refine st (h := O) ?_)
    refine gB (fun g12 => ?_) (fun g12 => ?_)
    · refine sp ?_
      iterate 3 (refine sp ?_)
      iterate 2 (refine st (h := O) ?_)
      iterate 3 (refine sp ?_)
      iterate 2 (refine st (h := O) ?_)
      iterate 3 (refine sp ?_)
      iterate 4 (refine su ?_)
      refine sp ?_
      refine st (h := O) ?_
      refine nl ?_
      refine cT ?_
      refine sq ?_
      refine rg ?_
      refine st (h := O) ?_
      refine nl ?_
      exact rt ⟨rfl, rfl⟩
    · refine sg (h := O) ?_
      refine sg (h := O) ?_
      refine clg (h := by exact fun ι hV hl => Legal_C _ _ [] _ (hv.le hl)) ?_
      refine sg (h := O) ?_
      iterate 2 (refine st (h := O) ?_)
      refine gB (fun g18 => ?_) (fun g18 => ?_)
      · refine sp ?_
        iterate 2 (refine sp ?_)
        iterate 2 (refine st (h := O) ?_)
        iterate 3 (refine sp ?_)
        iterate 4 (refine su ?_)
        refine sp ?_
        refine st (h := O) ?_
        refine nl ?_
        refine cT ?_
        refine sq ?_
        refine rg ?_
        refine st (h := O) ?_
        refine nl ?_
        exact rt ⟨rfl, rfl⟩
      · cases of_not g18

end Go.Proofs.Ytbeblgjibfoanaa.Am
namespace Go.Proofs.Ytbeblgjibfoanaa.Am
set_option linter.unusedSimpArgs false
set_option linter.unusedVariables false
set_option maxRecDepth 100000
set_option maxHeartbeats 4000000
open Go Go.RowKit
theorem force_last {l : List Item} (h : goodL l = true) : forceB (at_ l (l.length - 1)) = true := by
  simp only [goodL, Bool.and_eq_true, decide_eq_true_eq] at h
  simp [forceB, h.1.2, h.2]
theorem foD_last {l : List Item} (h : goodL l = true) : ∀ d i, i < l.length → l.length ≤ i + d → foD l d i < l.length ∧ forceB (at_ l (foD l d i)) = true
  | 0, i, hi, hd => by omega
  | d + 1, i, hi, hd => by
    simp only [foD]
    split
    · exact ⟨hi, by assumption⟩
    · rename_i hf
      by_cases hl : i + 1 < l.length
      · exact foD_last h d (i + 1) hl (by omega)
      · obtain rfl : i = l.length - 1 := by omega
        exact absurd (force_last h) hf
theorem foA_last {l : List Item} (h : goodL l = true) {i : Nat} (hi : i < l.length) : i ≤ foA l i ∧ foA l i < l.length ∧ forceB (at_ l (foA l i)) = true := by
  have h1 := foD_last h (l.length - i) i hi (by omega)
  exact ⟨(foD_bd l (l.length - i) i).1, h1⟩

end Go.Proofs.Ytbeblgjibfoanaa.Am
namespace Go.Proofs.Ytbeblgjibfoanaa.Am
set_option linter.unusedSimpArgs false
set_option linter.unusedVariables false
set_option maxRecDepth 100000
set_option maxHeartbeats 4000000
open Go Go.RowKit
/-- may one go on from a1 with a line up to b, by what is known behind b? -/
def okB (l : List Item) (x : Par) (t : Nat → Nat → Int × Int) (a1 b : Nat) : Bool :=
  legalB l b && ((judD l x a1 b).fits && (!decide (b < l.length - 1) || !decide ((t (b + 1) (judD l x a1 b).cls.toNat).1 = 0)))
def cstB (l : List Item) (x : Par) (t : Nat → Nat → Int × Int) (a1 b c : Nat) : Int :=
  demD l x (judD l x a1 b).bad (judD l x a1 b).cls c ((a1 : Int) - 1) b + (if b < l.length - 1 then (t (b + 1) (judD l x a1 b).cls.toNat).2 else 0)
def updB (l : List Item) (x : Par) (t : Nat → Nat → Int × Int) (a1 b : Nat) (acc : Nat → Int × Int) (c : Nat) : Int × Int :=
  if (acc c).1 = 0 ∨ cstB l x t a1 b c < (acc c).2 then ((b : Int), cstB l x t a1 b c) else acc c
def bRow (l : List Item) (x : Par) (t : Nat → Nat → Int × Int) (a1 : Nat) : Nat → Nat → Int × Int
  | 0 => fun _ => (0, 0)
  | m + 1 => if okB l x t a1 (a1 + m) = true then updB l x t a1 (a1 + m) (bRow l x t a1 m) else bRow l x t a1 m
def rowD (l : List Item) (x : Par) (t : Nat → Nat → Int × Int) (a1 : Nat) : Nat → Int × Int :=
  if a1 = 0 ∨ legalB l ((a1 : Int) - 1) = true then bRow l x t a1 (foA l a1 + 1 - a1) else fun _ => (0, 0)
/-- by the place of a break (one higher), and the class of the line ahead: where one goes on to, and what that costs; the last k places are done -/
def tabD (l : List Item) (x : Par) : Nat → Nat → Nat → Int × Int
  | 0 => fun _ _ => (0, 0)
  | k + 1 => fun i => if i + k + 1 = l.length then rowD l x (tabD l x k) i else tabD l x k i
def pathB (l : List Item) (x : Par) (t : Nat → Nat → Int × Int) : Nat → Nat → Int → List Int
  | 0, _, _ => []
  | d + 1, a1, cls => if a1 < l.length then (t a1 cls.toNat).1 :: pathB l x t d ((t a1 cls.toNat).1 + 1).toNat (judD l x a1 (t a1 cls.toNat).1.toNat).cls else []
def bestD (l : List Item) (x : Par) : List Int × Int × Bool :=
  if goodL l = true ∧ x.good = true ∧ (tabD l x l.length 0 1).1 ≠ 0 then (pathB l x (tabD l x l.length) l.length 0 1, (tabD l x l.length 0 1).2, true) else ([], 0, false)
theorem classD_bd (y z : Int) (f : Bool) : 0 ≤ classD y z f ∧ classD y z f ≤ 3 := by
  unfold classD
  (repeat' split) <;> omega
theorem judD_cls (l : List Item) (x : Par) (a1 b : Nat) : 0 ≤ (judD l x a1 b).cls ∧ (judD l x a1 b).cls ≤ 3 := by
  unfold judD
  split <;> exact classD_bd _ _ _
theorem tabD_none {l : List Item} {x : Par} : ∀ {k i : Nat}, i + k < l.length → tabD l x k i = fun _ => (0, 0)
  | 0, _, _ => rfl
  | k + 1, i, h => by
    simp only [tabD]
    rw [if_neg (by omega)]
    exact tabD_none (by omega)
theorem tabD_out {l : List Item} {x : Par} : ∀ {k i : Nat}, l.length ≤ i → tabD l x k i = fun _ => (0, 0)
  | 0, _, _ => rfl
  | k + 1, i, h => by
    simp only [tabD]
    rw [if_neg (by omega)]
    exact tabD_out (by omega)
theorem tabD_stable {l : List Item} {x : Par} {j : Nat} (hj : j < l.length) : ∀ {k : Nat}, l.length ≤ j + k → tabD l x k j = rowD l x (tabD l x (l.length - 1 - j)) j
  | 0, h => by omega
  | k + 1, h => by
    simp only [tabD]
    by_cases hk : j + k + 1 = l.length
    · rw [if_pos hk, show l.length - 1 - j = k from by omega]
    · rw [if_neg hk]
      exact tabD_stable hj (by omega)
theorem tabD_same {l : List Item} {x : Par} {j k k' : Nat} (h : l.length ≤ j + k) (h' : l.length ≤ j + k') : tabD l x k j = tabD l x k' j := by
  by_cases hj : j < l.length
  · rw [tabD_stable hj h, tabD_stable hj h']
  · rw [tabD_out (by omega), tabD_out (by omega)]
/-- bounds of what stands in the table -/
structure TabOk (l : List Item) (i : Nat) (p : Int × Int) : Prop where
  lo : 0 ≤ p.1
  hi : p.1 < l.length
  up : p.1 = 0 ∨ (i : Int) ≤ p.1
  cl : -(223000000 * ((l.length : Int) - i)) ≤ p.2
  ch : p.2 ≤ 223000000 * ((l.length : Int) - i)
theorem TabOk.zero {l : List Item} {i : Nat} (h : i ≤ l.length) (h0 : 0 < l.length) : TabOk l i (0, 0) := ⟨by simp, by simp; omega, .inl rfl, by simp; omega, by simp; omega⟩
theorem cstB_bd {l : List Item} {x : Par} {t : Nat → Nat → Int × Int} {a1 b c : Nat} (hb : b < l.length) (hab : a1 ≤ b) (ht : ∀ i c, i < l.length → TabOk l i (t i c)) : -(223000000 * ((l.length : Int) - a1)) ≤ cstB l x t a1 b c ∧ cstB l x t a1 b c ≤ 223000000 * ((l.length : Int) - a1) := by
  have h1 := demD_bd l x (judD l x a1 b).bad (judD l x a1 b).cls c ((a1 : Int) - 1) b
  unfold cstB
  split
  · have h2 := ht (b + 1) (judD l x a1 b).cls.toNat (by omega)
    have h3 := h2.cl
    have h4 := h2.ch
    constructor <;> omega
  · constructor <;> omega
theorem bRow_ok {l : List Item} {x : Par} {t : Nat → Nat → Int × Int} {a1 : Nat} (ht : ∀ i c, i < l.length → TabOk l i (t i c)) (ha : a1 < l.length) : ∀ m, a1 + m ≤ l.length → ∀ c, TabOk l a1 (bRow l x t a1 m c)
  | 0, _, c => TabOk.zero (by omega) (by omega)
  | m + 1, h, c => by
    have ih := bRow_ok (x := x) ht ha m (by omega) c
    simp only [bRow]
    split
    · unfold updB
      split
      · have hc := cstB_bd (x := x) (c := c) (show a1 + m < l.length by omega) (show a1 ≤ a1 + m by omega) ht
        exact ⟨by dsimp only; omega, by dsimp only; omega, .inr (by dsimp only; omega), hc.1, hc.2⟩
      · exact ih
    · exact ih
theorem tabD_ok {l : List Item} {x : Par} (hg : goodL l = true) : ∀ k i c, i < l.length → TabOk l i (tabD l x k i c)
  | 0, i, c, h => TabOk.zero (by omega) (by omega)
  | k + 1, i, c, h => by
    simp only [tabD]
    split
    · unfold rowD
      split
      · have := foA_last hg h
        exact bRow_ok (tabD_ok hg k) h _ (by omega) c
      · exact TabOk.zero (by omega) (by omega)
    · exact tabD_ok hg k i c h
/-- where one goes on to, one may go on -/
theorem bRow_next {l : List Item} {x : Par} {t : Nat → Nat → Int × Int} {a1 : Nat} : ∀ m c, (bRow l x t a1 m c).1 ≠ 0 → ∃ b, a1 ≤ b ∧ b < a1 + m ∧ (bRow l x t a1 m c).1 = (b : Nat) ∧ okB l x t a1 b = true
  | 0, c, h => by simp [bRow] at h
  | m + 1, c, h => by
    simp only [bRow] at h ⊢
    split
    · rename_i hk
      rw [if_pos hk] at h
      unfold updB at h ⊢
      split
      · exact ⟨a1 + m, by omega, by omega, rfl, hk⟩
      · rename_i hn
        rw [if_neg hn] at h
        obtain ⟨b, h1, h2, h3, h4⟩ := bRow_next m c h
        exact ⟨b, h1, by omega, h3, h4⟩
    · rename_i hk
      rw [if_neg hk] at h
      obtain ⟨b, h1, h2, h3, h4⟩ := bRow_next m c h
      exact ⟨b, h1, by omega, h3, h4⟩
theorem tab_next {l : List Item} {x : Par} (hg : goodL l = true) {a1 c : Nat} (ha : a1 < l.length) (h : (tabD l x l.length a1 c).1 ≠ 0) :
    ∃ b, a1 ≤ b ∧ b < l.length ∧ (tabD l x l.length a1 c).1 = (b : Nat) ∧ legalB l b = true ∧ (judD l x a1 b).fits = true ∧ (b + 1 < l.length → (tabD l x l.length (b + 1) (judD l x a1 b).cls.toNat).1 ≠ 0) := by
  rw [tabD_stable ha (by omega)] at h ⊢
  unfold rowD at h ⊢
  split
  · rename_i hl
    rw [if_pos hl] at h
    obtain ⟨b, h1, h2, h3, h4⟩ := bRow_next _ c h
    have hf := foA_last hg ha
    simp only [okB, Bool.and_eq_true, Bool.or_eq_true, Bool.not_eq_true', decide_eq_false_iff_not] at h4
    obtain ⟨h5, h6, h7⟩ := h4
    refine ⟨b, h1, by omega, h3, h5, h6, fun hb => ?_⟩
    rw [tabD_same (k := l.length) (k' := l.length - 1 - a1) (by omega) (by omega)]
    rcases h7 with h7 | h7
    · omega
    · exact h7
  · rename_i hl
    rw [if_neg hl] at h
    simp at h

end Go.Proofs.Ytbeblgjibfoanaa.Am
namespace Go.Proofs.Ytbeblgjibfoanaa.Am
set_option linter.unusedSimpArgs false
set_option linter.unusedVariables false
set_option maxRecDepth 100000
set_option maxHeartbeats 4000000
open Go Go.RowKit
/-- the table, where it lies -/
def TB (l : List Item) (T : Nat → Int) (t : Nat → Nat → Int × Int) : Prop := ∀ i c, i < l.length → c < 4 → T (i * 8 + c) = (t i c).1 ∧ T (i * 8 + 4 + c) = (t i c).2
def setR (t : Nat → Nat → Int × Int) (a1 : Nat) (acc : Nat → Int × Int) : Nat → Nat → Int × Int := fun i => if i = a1 then acc else t i
theorem TB.at {l : List Item} {T : Nat → Int} {t : Nat → Nat → Int × Int} (h : TB l T t) {i c k : Nat} (hi : i < l.length) (hc : c < 4) (hk : k = i * 8 + c) : T k = (t i c).1 := hk ▸ (h i c hi hc).1
theorem TB.at4 {l : List Item} {T : Nat → Int} {t : Nat → Nat → Int × Int} (h : TB l T t) {i c k : Nat} (hi : i < l.length) (hc : c < 4) (hk : k = i * 8 + 4 + c) : T k = (t i c).2 := hk ▸ (h i c hi hc).2
theorem setR_id {t : Nat → Nat → Int × Int} {a1 : Nat} {acc : Nat → Int × Int} (h : t a1 = acc) : setR t a1 acc = t := by
  funext i
  unfold setR
  split
  · rename_i e; rw [e, h]
  · rfl
theorem TB.cong {l : List Item} {T : Nat → Int} {t : Nat → Nat → Int × Int} {a1 : Nat} {acc acc' : Nat → Int × Int} (h : TB l T (setR t a1 acc)) (he : ∀ c, c < 4 → acc' c = acc c) : TB l T (setR t a1 acc') := by
  intro i c hi hc
  have := h i c hi hc
  unfold setR at this ⊢
  split
  · rename_i e
    rw [if_pos e] at this
    rw [he c hc]; exact this
  · rename_i e
    rw [if_neg e] at this
    exact this
theorem TB.upd {l : List Item} {T : Nat → Int} {t : Nat → Nat → Int × Int} {a1 c A B : Nat} {acc acc' : Nat → Int × Int} {p q : Int} (h : TB l T (setR t a1 acc)) (hc : c < 4) (hA : A = a1 * 8 + c) (hB : B = a1 * 8 + 4 + c) (h1 : acc' c = (p, q)) (he : ∀ c', c' < 4 → c' ≠ c → acc' c' = acc c') : TB l (setI (setI T A p) B q) (setR t a1 acc') := by
  subst hA hB
  intro i c' hi hc'
  have := h i c' hi hc'
  unfold setR at this ⊢
  by_cases e : i = a1
  · subst e
    rw [if_pos rfl] at this ⊢
    by_cases e2 : c' = c
    · subst e2
      have n1 : i * 8 + c' ≠ i * 8 + 4 + c' := by omega
      simp [setI, h1, n1]
    · have n1 : i * 8 + c' ≠ i * 8 + c := by omega
      have n2 : i * 8 + c' ≠ i * 8 + 4 + c := by omega
      have n3 : i * 8 + 4 + c' ≠ i * 8 + 4 + c := by omega
      have n4 : i * 8 + 4 + c' ≠ i * 8 + c := by omega
      simp only [setI, n1, n2, n3, n4, if_false, he c' hc' e2]
      exact this
  · rw [if_neg e] at this ⊢
    have n1 : i * 8 + c' ≠ a1 * 8 + c := by omega
    have n2 : i * 8 + c' ≠ a1 * 8 + 4 + c := by omega
    have n3 : i * 8 + 4 + c' ≠ a1 * 8 + 4 + c := by omega
    have n4 : i * 8 + 4 + c' ≠ a1 * 8 + c := by omega
    simp only [setI, n1, n2, n3, n4, if_false]
    exact this
theorem pathB_end (l : List Item) (x : Par) (t : Nat → Nat → Int × Int) (d : Nat) (cls : Int) : pathB l x t d l.length cls = [] := by cases d <;> simp [pathB]
theorem Best_C (F : Mem) (v : Value) (l : List Item) (x : Par) (hv : RItems F v l) : C Try.prog 15 [v, x.v] F (fun u Y => ∃ w, u = .tuple #[w, .int .i64 (bestD l x).2.1, .bool (bestD l x).2.2] ∧ SlV w ∧ ∀ G, Rd G Y → RInts G w (bestD l x).1) := by
  have hno : ¬ (goodL l = true ∧ x.good = true ∧ (tabD l x l.length 0 1).1 ≠ 0) → bestD l x = ([], 0, false) := fun h => by simp only [bestD]; rw [if_neg h]
  have hye : (goodL l = true ∧ x.good = true ∧ (tabD l x l.length 0 1).1 ≠ 0) → bestD l x = (pathB l x (tabD l x l.length) l.length 0 1, (tabD l x l.length 0 1).2, true) := fun h => by simp only [bestD]; rw [if_pos h]
  obtain ⟨xw, tol, line, twice, odd⟩ := x
  generalize hx : (⟨xw, tol, line, twice, odd⟩ : Par) = x at *
  have hxv : x.v = .agg #[.int .i64 xw, .int .i64 tol, .int .i64 line, .int .i64 twice, .int .i64 odd] := by rw [← hx]; rfl
  have hGd : ∀ G : Mem, C0 Try.prog 34 [.agg #[.int .i64 xw, .int .i64 tol, .int .i64 line, .int .i64 twice, .int .i64 odd]] G (.bool x.good) := fun G => by rw [← hxv]; exact Good_C G x
  have hJ : ∀ (G : Mem) {p : Value}, RPara G p l → ∀ (a : Int) (a1 b : Nat), goodL l = true → x.good = true → a + 1 = a1 → a1 ≤ l.length → b < l.length → C0 Try.prog 38 [p, .int .i64 a, .int .i64 b, .agg #[.int .i64 xw, .int .i64 tol, .int .i64 line, .int .i64 twice, .int .i64 odd]] G (judV l x a1 b) := fun G p hp a a1 b h1 h2 h3 h4 h5 => by rw [← hxv]; exact judge_C G p l a a1 b x hp h1 h3 h4 h5 h2
  have hDm : ∀ (G : Mem) {p : Value}, RPara G p l → ∀ (w y z bad cls prev a b : Int) (fits : Bool), a < l.length → b < l.length → C0 Try.prog 39 [p, lineV w y z bad cls fits, .int .i64 prev, .int .i64 a, .int .i64 b, .agg #[.int .i64 xw, .int .i64 tol, .int .i64 line, .int .i64 twice, .int .i64 odd]] G (.int .i64 (demD l x bad cls prev a b)) := fun G p hp w y z bad cls prev a b fits h1 h2 => by rw [← hxv]; exact demerits_C G p l w y z bad cls prev a b fits x hp h1 h2
  rw [hxv]
  rcases hv.forms with ⟨vb, vo, vc, rfl⟩ | ⟨rfl, rfl⟩
  ·
    refine C.go hT Try.func15 Try.ntmps15 ?_
    refine sq ?_
    refine rg ?_
    refine bx ?_
    iterate 3 (refine st (h := O) ?_)
    refine nl ?_
    refine sc ?_
    iterate 2 (refine sq ?_)
    refine rg ?_
    refine st (h := O) ?_
    refine cl (h := by exact fun ι hV hl => IGood_C _ _ l (hv.le hl)) ?_
    iterate 2 (refine st (h := O) ?_)
    refine gB (fun g23 => ?_) (fun g23 => ?_)
    · refine sp ?_
      iterate 2 (refine sp ?_)
      refine st (h := O) ?_
      refine nl ?_
      refine cT ?_
      refine sq ?_
      refine rg ?_
      iterate 3 (refine st (h := O) ?_)
      refine nl ?_
      refine rt ⟨_, ?_, .inr ⟨0, 0, rfl⟩, fun G hG => ?_⟩
      · rw [hno (fun h => not_of g23 h.1)]
      · rw [hno (fun h => not_of g23 h.1)]; exact .inr ⟨rfl, rfl⟩
    · refine sg (h := sdLN) ?_
      refine clg (h := by exact fun ι hV hl => hGd _) ?_
      refine sg (h := O) ?_
      refine st (h := O) ?_
      refine nl ?_
      refine cB (fun c0 => ?_) (fun c0 => ?_)
      · refine sq ?_
        refine rg ?_
        iterate 3 (refine st (h := O) ?_)
        refine nl ?_
        refine rt ⟨_, ?_, .inr ⟨0, 0, rfl⟩, fun G hG => ?_⟩
        · rw [hno (fun h => not_of c0 h.2.1)]
        · rw [hno (fun h => not_of c0 h.2.1)]; exact .inr ⟨rfl, rfl⟩
      · have hgl := of_not g23
        have hgx := of_not c0
        have hlen := good_len hgl
        refine sk ?_
        refine sq ?_
        refine rg ?_
        refine st (h := O) ?_
        refine clC (h := by exact fun ι hV hl => ready_C _ (.slice (some ⟨vb, vo, none⟩) l.length vc) l (hv.le hl) hgl) ?_
        intro p Y hQ hpv hpp hN
        have hp := hQ _ (hv.le hN.le) hN.rows
        obtain ⟨pb, po, qb, qo, qc, wb, wo, wc, yb, yo, yc, zb, zo, zc, bb, bo, bc, fb, fo, fc, rfl, ⟨_, _, _, _, _, hf0⟩, _, hf8⟩ := id hp
        refine st (h := O) ?_
        refine nl ?_
        refine sq ?_
        refine rg ?_
        iterate 2 (refine st (h := O) ?_)
        refine st (h := sdS) ?_
        refine st (h := O) ?_
        refine nl ?_
        refine sq ?_
        refine rg ?_
        refine st (h := O) ?_
        refine st (h := sdA) ?_
        refine mk ?_
        rw [zer_gIn (s := 8)]
        rotate_left
        · rfl
        rw [show ((l.length : Int) - 1 + 1).toNat * 8 = l.length * 8 from by omega]
        refine st (h := O) ?_
        refine nl ?_
        refine sq ?_
        refine lb ?_
        iterate 2 (refine sq ?_)
        refine rg ?_
        refine st (h := O) ?_
        refine st (h := sdS) ?_
        refine st (h := O) ?_
        refine nl ?_
        refine bl ?_
        refine J.loop3 (α := Int) (β := Nat) (γ := Nat → Int) (fun a k T => -2 ≤ a ∧ a + k + 2 = l.length ∧ TB l T (tabD l x k)) (fun a k T => [(10, .int .i64 a)]) [(3, _), (7, _), (8, _), (9, _)] (fun a k T => [(35, { elem := 69, cs := gI T (l.length * 8), room := l.length * 8, flat := true })]) [(3, _)] (fun a k T => (a + 2).toNat) (_) (0) (_) (by exact ⟨rfl, trivial⟩) (by exact ⟨rfl, rfl, rfl, rfl, trivial⟩) (by exact ⟨rfl, rfl, rfl, rfl, trivial⟩) ?_ ?_
        · exact ⟨by omega, by omega, fun i c _ _ => ⟨rfl, rfl⟩⟩
        · intro a k T L1 K1 e1 e2 hI
          dsimp only [apV, apR, List.cons_append, List.nil_append] at e1 e2
          subst e1 e2
          obtain ⟨ha, hak, hTb⟩ := hI
          iterate 2 (refine sq ?_)
          refine rg ?_
          iterate 2 (refine st (h := O) ?_)
          refine nl ?_
          refine cD (fun c1 => ?_) (fun c1 => ?_)
          · obtain ⟨a1, ha1⟩ := Int.eq_ofNat_of_zero_le (show (0 : Int) ≤ a + 1 by omega)
            obtain rfl : a = (a1 : Int) - 1 := by omega
            have ha1l : a1 < l.length := by omega
            have e1 : ((a1 : Int) - 1 + 1).toNat = a1 := by omega
            obtain ⟨_, _, _, _, hfo⟩ := hf8 a1 (by omega)
            have hfo' : look (F.add Y) ⟨fb, fo + ((a1 : Int) - 1 + 1).toNat * 1, none⟩ = some (.int .i64 (foA l a1)) := by rw [e1]; exact hfo
            obtain ⟨fl1, fl2, fl3⟩ := foA_last hgl ha1l
            have hmin : min (foA l a1 : Int) ((l.length : Int) - 1) = foA l a1 := by omega
            have hrow : (a1 = 0 ∨ legalB l ((a1 : Int) - 1) = true) → tabD l x (k + 1) = setR (tabD l x k) a1 (bRow l x (tabD l x k) a1 (foA l a1 + 1 - a1)) := fun h => by
              funext i
              simp only [tabD, setR]
              by_cases hi : i = a1
              · rw [if_pos (by omega), if_pos hi, hi, rowD, if_pos h]
              · rw [if_neg (by omega), if_neg hi]
            have hrow0 : ¬ (a1 = 0 ∨ legalB l ((a1 : Int) - 1) = true) → tabD l x (k + 1) = tabD l x k := fun h => by
              funext i
              simp only [tabD]
              by_cases hi : i = a1
              · rw [if_pos (by omega), hi, rowD, if_neg h, tabD_none (by omega)]
              · rw [if_neg (by omega)]
            have htk : ∀ i c, i < l.length → TabOk l i (tabD l x k i c) := fun i c h => tabD_ok hgl k i c h
            refine sk ?_
            refine sq ?_
            refine bl ?_
            refine sc ?_
            iterate 2 (refine sq ?_)
            refine rg ?_
            iterate 3 (refine st (h := O) ?_)
            refine gD (fun g44 => ?_) (fun g44 => ?_)
            · refine sg (h := O) ?_
              refine sg (h := O) ?_
              refine clg (h := by exact fun ι hV hl => legal_C _ _ l _ (hp.le hl).head) ?_
              refine sg (h := O) ?_
              refine st (h := O) ?_
              refine nl ?_
              refine cB (fun c2 => ?_) (fun c2 => ?_)
              · refine ex ?_
                refine rg ?_
                refine st (h := O) ?_
                refine st (h := sdS) ?_
                refine st (h := O) ?_
                refine nl ?_
                refine bk3 (_) (k + 1) (_) (by exact ⟨rfl, trivial⟩) (by exact ⟨rfl, rfl, rfl, rfl, trivial⟩) (by exact ⟨rfl, rfl, rfl, rfl, trivial⟩) ?_ ?_
                · omega
                · refine ⟨by omega, by omega, ?_⟩
                  have hlf := not_of c2
                  rw [hrow0 (by rintro (h | h); · omega
                                · exact hlf h)]
                  exact hTb
              · refine sk ?_
                refine sq ?_
                refine rg ?_
                iterate 2 (refine st (h := O) ?_)
                refine st (h := sdA) ?_
                refine st (h := (sdX (z := 8))) ?_
                refine st (h := O) ?_
                refine nl ?_
                refine sq ?_
                refine lb ?_
                refine sq ?_
                refine rg ?_
                refine st (h := O) ?_
                refine st (h := sdA) ?_
                refine st (h := O) ?_
                refine nl ?_
                refine bl ?_
                refine J.loop2 (α := Int) (β := Nat → Int) (fun b T' => (a1 : Int) ≤ b ∧ b ≤ foA l a1 + 1 ∧ TB l T' (setR (tabD l x k) a1 (bRow l x (tabD l x k) a1 (b - a1).toNat))) (fun b T' => [(12, .int .i64 b)]) [(3, _), (7, _), (8, _), (9, _), (10, _), (11, _)] (fun b T' => [(35, { elem := 69, cs := gI T' (l.length * 8), room := l.length * 8, flat := true })]) [(3, _)] (fun b T' => (foA l a1 + 1 - b).toNat) (_) (_) (by exact ⟨rfl, trivial⟩) (by exact ⟨rfl, rfl, rfl, rfl, rfl, rfl, trivial⟩) (by exact ⟨rfl, rfl, rfl, rfl, trivial⟩) ?_ ?_
                · refine ⟨by omega, by omega, ?_⟩
                  rw [show ((a1 : Int) - 1 + 1 - a1).toNat = 0 from by omega, setR_id (by rw [tabD_none (by omega)]; rfl)]
                  exact hTb
                · intro b T' L1 K1 e1 e2 hI
                  dsimp only [apV, apR, List.cons_append, List.nil_append] at e1 e2
                  subst e1 e2
                  obtain ⟨hb0, hb1, hT'⟩ := hI
                  iterate 2 (refine sq ?_)
                  refine rg ?_
                  iterate 3 (refine st (h := O) ?_)
                  refine st (h := sdFA) ?_
                  refine st (h := sdL) ?_
                  refine st (h := O) ?_
                  refine st (h := sdA) ?_
                  refine st (h := (sdX (z := 1))) ?_
                  refine st (h := (by first | exact sdLG | exact sdW)) ?_
                  iterate 3 (refine st (h := O) ?_)
                  refine nl ?_
                  refine cD (fun c3 => ?_) (fun c3 => ?_)
                  · rw [hmin] at c3
                    obtain ⟨b1, rfl⟩ := Int.eq_ofNat_of_zero_le (show (0 : Int) ≤ b by omega)
                    obtain ⟨m, rfl⟩ : ∃ m, b1 = a1 + m := ⟨b1 - a1, by omega⟩
                    rw [show ((a1 + m : Nat) : Int) - a1 = m from by omega, Int.toNat_natCast] at hT'
                    have hbl : a1 + m < l.length := by omega
                    have hj := judD_cls l x a1 (a1 + m)
                    refine sk ?_
                    refine sq ?_
                    refine bl ?_
                    iterate 2 (refine sq ?_)
                    refine rg ?_
                    iterate 2 (refine st (h := O) ?_)
                    refine cl (h := by exact fun ι hV hl => legal_C _ _ l _ (hp.le hl).head) ?_
                    refine st (h := O) ?_
                    refine nl ?_
                    refine cB (fun c4 => ?_) (fun c4 => ?_)
                    · refine ex ?_
                      refine rg ?_
                      refine st (h := O) ?_
                      refine st (h := sdA) ?_
                      refine st (h := O) ?_
                      refine nl ?_
                      refine bk2 (_) (_) (by exact ⟨rfl, trivial⟩) (by exact ⟨rfl, rfl, rfl, rfl, rfl, rfl, trivial⟩) (by exact ⟨rfl, rfl, rfl, rfl, trivial⟩) ?_ ?_
                      · omega
                      · refine ⟨by omega, by omega, ?_⟩
                        rw [show (((a1 + m : Nat) : Int) + 1 - a1).toNat = m + 1 from by omega, bRow, if_neg (by simp only [okB, Bool.and_eq_true]; exact fun h => not_of c4 h.1)]
                        exact hT'
                    · refine sk ?_
                      refine sq ?_
                      refine rg ?_
                      iterate 3 (refine st (h := O) ?_)
                      refine st (h := sdLN) ?_
                      refine cl (h := by exact fun ι hV hl => hJ _ (hp.le hl) _ a1 (a1 + m) hgl hgx ha1 (by omega) (by omega)) ?_
                      refine al ?_
                      refine so ?_
                      refine nl ?_
                      iterate 2 (refine sq ?_)
                      refine dr 20 [13, 35, 3] [0, 1, 2, 3, 4, 5, 6, 7, 8, 9, 10, 11, 12, 13, 14, 15, 16, 17, 18, 19] ?_
                      refine dt (hv := by exact sdFA) ?_
                      refine dt (hv := by exact sdL) ?_
                      iterate 2 (refine dt (hv := by exact O) ?_)
                      refine dgB (fun g82 => ?_) (fun g82 => ?_)
                      · refine dp ?_
                        iterate 3 (refine dp ?_)
                        iterate 10 (refine du ?_)
                        refine dp ?_
                        refine dt (hv := by exact O) ?_
                        refine dn ?_
                        refine cT ?_
                        refine ex ?_
                        refine rg ?_
                        refine st (h := O) ?_
                        refine st (h := sdA) ?_
                        refine st (h := O) ?_
                        refine nl ?_
                        refine bk2 (_) (_) (by exact ⟨rfl, trivial⟩) (by exact ⟨rfl, rfl, rfl, rfl, rfl, rfl, trivial⟩) (by exact ⟨rfl, rfl, rfl, rfl, trivial⟩) ?_ ?_
                        · omega
                        · refine ⟨by omega, by omega, ?_⟩
                          rw [show (((a1 + m : Nat) : Int) + 1 - a1).toNat = m + 1 from by omega, bRow, if_neg (by simp only [okB, Bool.and_eq_true]; exact fun h => not_of g82 h.2.1)]
                          exact hT'
                      · refine dg (hv := by exact O) ?_
                        iterate 3 (refine dg (hv := by exact O) ?_)
                        refine dgD (fun g86 => ?_) (fun g86 => ?_)
                        · have hTn : T' (0 + (((a1 + m : Nat) : Int) + 1).toNat * 8 + 0 + (judD l x a1 (a1 + m)).cls.toNat * 1) = (tabD l x k (a1 + m + 1) (judD l x a1 (a1 + m)).cls.toNat).1 := by
                            rw [hT'.at (i := a1 + m + 1) (c := (judD l x a1 (a1 + m)).cls.toNat) (by omega) (by omega) (by omega)]
                            simp only [setR]
                            rw [if_neg (by omega)]
                          iterate 2 (refine dg (hv := by exact O) ?_)
                          refine dg (hv := by exact sdA) ?_
                          refine dg (hv := by exact sdFA) ?_
                          refine dg (hv := by exact sdL) ?_
                          refine dg (hv := by exact (sdX (z := 8))) ?_
                          refine dg (hv := by exact sdFA) ?_
                          refine dg (hv := by exact (sdXA (z := 1))) ?_
                          refine dg (hv := by exact (by first | exact sdLG | exact sdW)) ?_
                          iterate 2 (refine dg (hv := by exact O) ?_)
                          refine dt (hv := by exact O) ?_
                          refine dn ?_
                          refine cD (fun c5 => ?_) (fun c5 => ?_)
                          · refine ex ?_
                            refine rg ?_
                            refine st (h := O) ?_
                            refine st (h := sdA) ?_
                            refine st (h := O) ?_
                            refine nl ?_
                            refine bk2 (_) (_) (by exact ⟨rfl, trivial⟩) (by exact ⟨rfl, rfl, rfl, rfl, rfl, rfl, trivial⟩) (by exact ⟨rfl, rfl, rfl, rfl, trivial⟩) ?_ ?_
                            · omega
                            · refine ⟨by omega, by omega, ?_⟩
                              rw [show (((a1 + m : Nat) : Int) + 1 - a1).toNat = m + 1 from by omega, bRow, if_neg (by
                                simp only [okB, Bool.and_eq_true, Bool.or_eq_true, Bool.not_eq_true', decide_eq_false_iff_not]
                                rintro ⟨-, -, h | h⟩
                                · omega
                                · exact h (hTn ▸ c5))]
                              exact hT'
                          · have hok : okB l x (tabD l x k) a1 (a1 + m) = true := by
                              simp only [okB, Bool.and_eq_true, Bool.or_eq_true, Bool.not_eq_true', decide_eq_false_iff_not]
                              exact ⟨of_not c4, of_not g82, .inr (fun h => c5 (hTn.trans h))⟩
                            refine sk ?_
                            refine sq ?_
                            refine rg ?_
                            refine st (h := O) ?_
                            refine nl ?_
                            refine bl ?_
                            refine J.loop2 (α := Nat) (β := Nat → Int) (fun c T2 => c ≤ 4 ∧ TB l T2 (setR (tabD l x k) a1 (fun c' => if c' < c then updB l x (tabD l x k) a1 (a1 + m) (bRow l x (tabD l x k) a1 m) c' else bRow l x (tabD l x k) a1 m c'))) (fun c T2 => [(99, .int .i64 c)]) [(3, _), (7, _), (8, _), (9, _), (10, _), (11, _), (12, _), (13, _)] (fun c T2 => [(35, { elem := 69, cs := gI T2 (l.length * 8), room := l.length * 8, flat := true })]) [(13, _), (3, _)] (fun c T2 => 4 - c) (0) (_) (by exact ⟨rfl, trivial⟩) (by exact ⟨rfl, rfl, rfl, rfl, rfl, rfl, rfl, rfl, trivial⟩) (by exact ⟨rfl, rfl, rfl, rfl, rfl, rfl, trivial⟩) ?_ ?_
                            · refine ⟨by omega, ?_⟩
                              exact hT'.cong fun c' hc' => (by rw [if_neg (by omega)])
                            · intro c T2 L1 K1 e1 e2 hI
                              dsimp only [apV, apR, List.cons_append, List.nil_append] at e1 e2
                              subst e1 e2
                              obtain ⟨hc4, hT2⟩ := hI
                              refine sq ?_
                              refine rg ?_
                              refine st (h := O) ?_
                              refine nl ?_
                              refine sq ?_
                              refine cD (fun c6 => ?_) (fun c6 => ?_)
                              · have hc : c < 4 := by omega
                                refine sk ?_
                                refine sq ?_
                                refine bl ?_
                                refine sq ?_
                                refine rg ?_
                                iterate 2 (refine st (h := O) ?_)
                                refine nl ?_
                                refine sq ?_
                                refine rg ?_
                                refine st (h := O) ?_
                                refine st (h := sdLN) ?_
                                iterate 3 (refine st (h := O) ?_)
                                refine st (h := sdLN) ?_
                                refine cl (h := by exact fun ι hV hl => hDm _ (hp.le hl) _ _ _ _ _ _ _ _ _ (by omega) (by omega)) ?_
                                refine st (h := O) ?_
                                refine nl ?_
                                iterate 2 (refine sq ?_)
                                refine rg ?_
                                iterate 3 (refine st (h := O) ?_)
                                refine nl ?_
                                refine cD (fun c7 => ?_) (fun c7 => ?_)
                                · have hTc : T2 (0 + (((a1 + m : Nat) : Int) + 1).toNat * 8 + 4 + (judD l x a1 (a1 + m)).cls.toNat * 1) = (tabD l x k (a1 + m + 1) (judD l x a1 (a1 + m)).cls.toNat).2 := by
                                    rw [hT2.at4 (i := a1 + m + 1) (c := (judD l x a1 (a1 + m)).cls.toNat) (by omega) (by omega) (by omega)]
                                    simp only [setR]
                                    rw [if_neg (by omega)]
                                  have htb := htk (a1 + m + 1) (judD l x a1 (a1 + m)).cls.toNat (by omega)
                                  have htb1 := htb.cl
                                  have htb2 := htb.ch
                                  have hdb := demD_bd l x (judD l x a1 (a1 + m)).bad (judD l x a1 (a1 + m)).cls c ((a1 : Int) - 1) (a1 + m : Nat)
                                  have hcst : demD l x (judD l x a1 (a1 + m)).bad (judD l x a1 (a1 + m)).cls c ((a1 : Int) - 1) (a1 + m : Nat) + T2 (0 + (((a1 + m : Nat) : Int) + 1).toNat * 8 + 4 + (judD l x a1 (a1 + m)).cls.toNat * 1) = cstB l x (tabD l x k) a1 (a1 + m) c := by
                                    rw [hTc]; unfold cstB; rw [if_pos (by omega)]
                                  refine dr 12 [35, 13, 3] [0, 1, 2, 3, 4, 5, 6, 7, 8, 9, 10, 11] ?_
                                  iterate 3 (refine dt (hv := by exact O) ?_)
                                  refine dt (hv := by exact sdA) ?_
                                  refine dt (hv := by exact sdFA) ?_
                                  refine dt (hv := by exact sdL) ?_
                                  refine dt (hv := by exact (sdX (z := 8))) ?_
                                  refine dt (hv := by exact sdFA) ?_
                                  refine dt (hv := by exact (sdXA (z := 1))) ?_
                                  refine dt (hv := by exact (by first | exact sdLG | exact sdW)) ?_
                                  refine dt (hv := by exact sdA) ?_
                                  refine dt (hv := by exact O) ?_
                                  refine dn ?_
                                  refine sq ?_
                                  rw [hcst]
                                  have hA : T2 (0 + ((a1 : Int) - 1 + 1).toNat * 8 + 0 + (c : Int).toNat * 1) = (bRow l x (tabD l x k) a1 m c).1 := by
                                    rw [hT2.at (i := a1) (c := c) (by omega) (by omega) (by omega)]
                                    simp [setR]
                                  have hB : T2 (0 + ((a1 : Int) - 1 + 1).toNat * 8 + 4 + (c : Int).toNat * 1) = (bRow l x (tabD l x k) a1 m c).2 := by
                                    rw [hT2.at4 (i := a1) (c := c) (by omega) (by omega) (by omega)]
                                    simp [setR]
                                  refine rg ?_
                                  iterate 3 (refine st (h := O) ?_)
                                  refine st (h := sdFA) ?_
                                  refine st (h := (sdXA (z := 1))) ?_
                                  refine st (h := (by first | exact sdLG | exact sdW)) ?_
                                  iterate 2 (refine st (h := O) ?_)
                                  refine gD (fun g130 => ?_) (fun g130 => ?_)
                                  · refine sp ?_
                                    iterate 7 (refine sp ?_)
                                    refine st (h := O) ?_
                                    refine nl ?_
                                    refine cT ?_
                                    refine dr 9 [35, 13, 3] [0, 1, 2002, 2003, 4, 2005, 2006, 2007, 8, 2010, 2011, 1009, 2012, 1013] ?_
                                    iterate 2 (refine dt (hv := by exact O) ?_)
                                    iterate 2 (refine dq (hv := by exact fun _ _ => O) ?_)
                                    refine dt (hv := by exact O) ?_
                                    iterate 2 (refine dq (hv := by exact fun _ _ => O) ?_)
                                    refine dq (hv := by exact fun _ _ => sdFA) ?_
                                    refine dt (hv := by exact (sdXA (z := 1))) ?_
                                    refine dq (hv := by exact fun _ _ => O) ?_
                                    refine dq (hv := by exact fun _ _ => sdFA) ?_
                                    first | refine dsoG ?_ | refine dso ?_
                                    refine dq (hv := by exact fun _ _ => (sdXA (z := 1))) ?_
                                    first | refine dsoG ?_ | refine dso ?_
                                    refine dn ?_
                                    refine bk ?_
                                    refine rg ?_
                                    refine st (h := sdA) ?_
                                    refine st (h := O) ?_
                                    refine nl ?_
                                    refine bk2 (c + 1) (_) (by exact ⟨rfl, trivial⟩) (by exact ⟨rfl, rfl, rfl, rfl, rfl, rfl, rfl, rfl, trivial⟩) (by exact ⟨rfl, rfl, rfl, rfl, rfl, rfl, trivial⟩) ?_ ?_
                                    · omega
                                    · refine ⟨by omega, ?_⟩
                                      have hu : updB l x (tabD l x k) a1 (a1 + m) (bRow l x (tabD l x k) a1 m) c = (((a1 + m : Nat) : Int), cstB l x (tabD l x k) a1 (a1 + m) c) := by unfold updB; rw [if_pos (.inl (hA ▸ g130))]
                                      refine hT2.upd hc (by omega) (by omega) ?_ (fun c' h1 h2 => ?_)
                                      · rw [if_pos (by omega), hu]
                                      · by_cases h : c' < c
                                        · rw [if_pos (by omega), if_pos h]
                                        · rw [if_neg (by omega), if_neg h]
                                  · refine sg (h := O) ?_
                                    iterate 3 (refine sg (h := O) ?_)
                                    refine sg (h := sdFA) ?_
                                    refine sg (h := (sdXA (z := 1))) ?_
                                    refine sg (h := (by first | exact sdLG | exact sdW)) ?_
                                    refine sg (h := O) ?_
                                    refine st (h := O) ?_
                                    refine nl ?_
                                    refine cD (fun c8 => ?_) (fun c8 => ?_)
                                    · refine dr 9 [35, 13, 3] [0, 1, 2002, 2003, 4, 2005, 2006, 2007, 8, 2010, 2011, 1009, 2012, 1013] ?_
                                      iterate 2 (refine dt (hv := by exact O) ?_)
                                      iterate 2 (refine dq (hv := by exact fun _ _ => O) ?_)
                                      refine dt (hv := by exact O) ?_
                                      iterate 2 (refine dq (hv := by exact fun _ _ => O) ?_)
                                      refine dq (hv := by exact fun _ _ => sdFA) ?_
                                      refine dt (hv := by exact (sdXA (z := 1))) ?_
                                      refine dq (hv := by exact fun _ _ => O) ?_
                                      refine dq (hv := by exact fun _ _ => sdFA) ?_
                                      first | refine dsoG ?_ | refine dso ?_
                                      refine dq (hv := by exact fun _ _ => (sdXA (z := 1))) ?_
                                      first | refine dsoG ?_ | refine dso ?_
                                      refine dn ?_
                                      refine bk ?_
                                      refine rg ?_
                                      refine st (h := sdA) ?_
                                      refine st (h := O) ?_
                                      refine nl ?_
                                      refine bk2 (c + 1) (_) (by exact ⟨rfl, trivial⟩) (by exact ⟨rfl, rfl, rfl, rfl, rfl, rfl, rfl, rfl, trivial⟩) (by exact ⟨rfl, rfl, rfl, rfl, rfl, rfl, trivial⟩) ?_ ?_
                                      · omega
                                      · refine ⟨by omega, ?_⟩
                                        have hu : updB l x (tabD l x k) a1 (a1 + m) (bRow l x (tabD l x k) a1 m) c = (((a1 + m : Nat) : Int), cstB l x (tabD l x k) a1 (a1 + m) c) := by unfold updB; rw [if_pos (.inr (hB ▸ c8))]
                                        refine hT2.upd hc (by omega) (by omega) ?_ (fun c' h1 h2 => ?_)
                                        · rw [if_pos (by omega), hu]
                                        · by_cases h : c' < c
                                          · rw [if_pos (by omega), if_pos h]
                                          · rw [if_neg (by omega), if_neg h]
                                    · refine sk ?_
                                      refine bk ?_
                                      refine rg ?_
                                      refine st (h := sdA) ?_
                                      refine st (h := O) ?_
                                      refine nl ?_
                                      refine bk2 (c + 1) (_) (by exact ⟨rfl, trivial⟩) (by exact ⟨rfl, rfl, rfl, rfl, rfl, rfl, rfl, rfl, trivial⟩) (by exact ⟨rfl, rfl, rfl, rfl, rfl, rfl, trivial⟩) ?_ ?_
                                      · omega
                                      · refine ⟨by omega, ?_⟩
                                        have hu : updB l x (tabD l x k) a1 (a1 + m) (bRow l x (tabD l x k) a1 m) c = bRow l x (tabD l x k) a1 m c := by
                                          unfold updB
                                          rw [if_neg (by rintro (h | h); · exact g130 (hA.trans h)
                                                         · exact c8 (by rw [hB]; exact h))]
                                        refine hT2.cong fun c' h1 => ?_
                                        by_cases h2 : c' = c
                                        · subst h2; rw [if_pos (by omega), if_neg (by omega), hu]
                                        · by_cases h : c' < c
                                          · rw [if_pos (by omega), if_pos h]
                                          · rw [if_neg (by omega), if_neg h]
                                · have hcst : demD l x (judD l x a1 (a1 + m)).bad (judD l x a1 (a1 + m)).cls c ((a1 : Int) - 1) (a1 + m : Nat) = cstB l x (tabD l x k) a1 (a1 + m) c := by
                                    unfold cstB; rw [if_neg (by omega), Int.add_zero]
                                  refine sk ?_
                                  refine sq ?_
                                  rw [hcst]
                                  have hA : T2 (0 + ((a1 : Int) - 1 + 1).toNat * 8 + 0 + (c : Int).toNat * 1) = (bRow l x (tabD l x k) a1 m c).1 := by
                                    rw [hT2.at (i := a1) (c := c) (by omega) (by omega) (by omega)]
                                    simp [setR]
                                  have hB : T2 (0 + ((a1 : Int) - 1 + 1).toNat * 8 + 4 + (c : Int).toNat * 1) = (bRow l x (tabD l x k) a1 m c).2 := by
                                    rw [hT2.at4 (i := a1) (c := c) (by omega) (by omega) (by omega)]
                                    simp [setR]
                                  refine rg ?_
                                  iterate 3 (refine st (h := O) ?_)
                                  refine st (h := sdFA) ?_
                                  refine st (h := (sdXA (z := 1))) ?_
                                  refine st (h := (by first | exact sdLG | exact sdW)) ?_
                                  iterate 2 (refine st (h := O) ?_)
                                  refine gD (fun g130 => ?_) (fun g130 => ?_)
                                  · refine sp ?_
                                    iterate 7 (refine sp ?_)
                                    refine st (h := O) ?_
                                    refine nl ?_
                                    refine cT ?_
                                    refine dr 9 [35, 13, 3] [0, 1, 2002, 2003, 4, 2005, 2006, 2007, 8, 2010, 2011, 1009, 2012, 1013] ?_
                                    iterate 2 (refine dt (hv := by exact O) ?_)
                                    iterate 2 (refine dq (hv := by exact fun _ _ => O) ?_)
                                    refine dt (hv := by exact O) ?_
                                    iterate 2 (refine dq (hv := by exact fun _ _ => O) ?_)
                                    refine dq (hv := by exact fun _ _ => sdFA) ?_
                                    refine dt (hv := by exact (sdXA (z := 1))) ?_
                                    refine dq (hv := by exact fun _ _ => O) ?_
                                    refine dq (hv := by exact fun _ _ => sdFA) ?_
                                    first | refine dsoG ?_ | refine dso ?_
                                    refine dq (hv := by exact fun _ _ => (sdXA (z := 1))) ?_
                                    first | refine dsoG ?_ | refine dso ?_
                                    refine dn ?_
                                    refine bk ?_
                                    refine rg ?_
                                    refine st (h := sdA) ?_
                                    refine st (h := O) ?_
                                    refine nl ?_
                                    refine bk2 (c + 1) (_) (by exact ⟨rfl, trivial⟩) (by exact ⟨rfl, rfl, rfl, rfl, rfl, rfl, rfl, rfl, trivial⟩) (by exact ⟨rfl, rfl, rfl, rfl, rfl, rfl, trivial⟩) ?_ ?_
                                    · omega
                                    · refine ⟨by omega, ?_⟩
                                      have hu : updB l x (tabD l x k) a1 (a1 + m) (bRow l x (tabD l x k) a1 m) c = (((a1 + m : Nat) : Int), cstB l x (tabD l x k) a1 (a1 + m) c) := by unfold updB; rw [if_pos (.inl (hA ▸ g130))]
                                      refine hT2.upd hc (by omega) (by omega) ?_ (fun c' h1 h2 => ?_)
                                      · rw [if_pos (by omega), hu]
                                      · by_cases h : c' < c
                                        · rw [if_pos (by omega), if_pos h]
                                        · rw [if_neg (by omega), if_neg h]
                                  · refine sg (h := O) ?_
                                    iterate 3 (refine sg (h := O) ?_)
                                    refine sg (h := sdFA) ?_
                                    refine sg (h := (sdXA (z := 1))) ?_
                                    refine sg (h := (by first | exact sdLG | exact sdW)) ?_
                                    refine sg (h := O) ?_
                                    refine st (h := O) ?_
                                    refine nl ?_
                                    refine cD (fun c8 => ?_) (fun c8 => ?_)
                                    · refine dr 9 [35, 13, 3] [0, 1, 2002, 2003, 4, 2005, 2006, 2007, 8, 2010, 2011, 1009, 2012, 1013] ?_
                                      iterate 2 (refine dt (hv := by exact O) ?_)
                                      iterate 2 (refine dq (hv := by exact fun _ _ => O) ?_)
                                      refine dt (hv := by exact O) ?_
                                      iterate 2 (refine dq (hv := by exact fun _ _ => O) ?_)
                                      refine dq (hv := by exact fun _ _ => sdFA) ?_
                                      refine dt (hv := by exact (sdXA (z := 1))) ?_
                                      refine dq (hv := by exact fun _ _ => O) ?_
                                      refine dq (hv := by exact fun _ _ => sdFA) ?_
                                      first | refine dsoG ?_ | refine dso ?_
                                      refine dq (hv := by exact fun _ _ => (sdXA (z := 1))) ?_
                                      first | refine dsoG ?_ | refine dso ?_
                                      refine dn ?_
                                      refine bk ?_
                                      refine rg ?_
                                      refine st (h := sdA) ?_
                                      refine st (h := O) ?_
                                      refine nl ?_
                                      refine bk2 (c + 1) (_) (by exact ⟨rfl, trivial⟩) (by exact ⟨rfl, rfl, rfl, rfl, rfl, rfl, rfl, rfl, trivial⟩) (by exact ⟨rfl, rfl, rfl, rfl, rfl, rfl, trivial⟩) ?_ ?_
                                      · omega
                                      · refine ⟨by omega, ?_⟩
                                        have hu : updB l x (tabD l x k) a1 (a1 + m) (bRow l x (tabD l x k) a1 m) c = (((a1 + m : Nat) : Int), cstB l x (tabD l x k) a1 (a1 + m) c) := by unfold updB; rw [if_pos (.inr (hB ▸ c8))]
                                        refine hT2.upd hc (by omega) (by omega) ?_ (fun c' h1 h2 => ?_)
                                        · rw [if_pos (by omega), hu]
                                        · by_cases h : c' < c
                                          · rw [if_pos (by omega), if_pos h]
                                          · rw [if_neg (by omega), if_neg h]
                                    · refine sk ?_
                                      refine bk ?_
                                      refine rg ?_
                                      refine st (h := sdA) ?_
                                      refine st (h := O) ?_
                                      refine nl ?_
                                      refine bk2 (c + 1) (_) (by exact ⟨rfl, trivial⟩) (by exact ⟨rfl, rfl, rfl, rfl, rfl, rfl, rfl, rfl, trivial⟩) (by exact ⟨rfl, rfl, rfl, rfl, rfl, rfl, trivial⟩) ?_ ?_
                                      · omega
                                      · refine ⟨by omega, ?_⟩
                                        have hu : updB l x (tabD l x k) a1 (a1 + m) (bRow l x (tabD l x k) a1 m) c = bRow l x (tabD l x k) a1 m c := by
                                          unfold updB
                                          rw [if_neg (by rintro (h | h); · exact g130 (hA.trans h)
                                                         · exact c8 (by rw [hB]; exact h))]
                                        refine hT2.cong fun c' h1 => ?_
                                        by_cases h2 : c' = c
                                        · subst h2; rw [if_pos (by omega), if_neg (by omega), hu]
                                        · by_cases h : c' < c
                                          · rw [if_pos (by omega), if_pos h]
                                          · rw [if_neg (by omega), if_neg h]
                              · refine ex ?_
                                refine bk ?_
                                refine rg ?_
                                refine st (h := O) ?_
                                refine st (h := sdA) ?_
                                refine st (h := O) ?_
                                refine nl ?_
                                refine bk2 (_) (_) (by exact ⟨rfl, trivial⟩) (by exact ⟨rfl, rfl, rfl, rfl, rfl, rfl, trivial⟩) (by exact ⟨rfl, rfl, rfl, rfl, trivial⟩) ?_ ?_
                                · omega
                                · obtain rfl : c = 4 := by omega
                                  refine ⟨by omega, by omega, ?_⟩
                                  rw [show (((a1 + m : Nat) : Int) + 1 - a1).toNat = m + 1 from by omega, bRow, if_pos hok]
                                  exact hT2.cong fun c' hc' => (by rw [if_pos hc'])
                        · have hok : okB l x (tabD l x k) a1 (a1 + m) = true := by
                            simp only [okB, Bool.and_eq_true, Bool.or_eq_true, Bool.not_eq_true', decide_eq_false_iff_not]
                            exact ⟨of_not c4, of_not g82, .inl (by omega)⟩
                          iterate 10 (refine dp ?_)
                          refine dg (hv := by exact O) ?_
                          refine dt (hv := by exact O) ?_
                          refine dn ?_
                          refine cF ?_
                          refine sk ?_
                          refine sq ?_
                          refine rg ?_
                          refine st (h := O) ?_
                          refine nl ?_
                          refine bl ?_
                          refine J.loop2 (α := Nat) (β := Nat → Int) (fun c T2 => c ≤ 4 ∧ TB l T2 (setR (tabD l x k) a1 (fun c' => if c' < c then updB l x (tabD l x k) a1 (a1 + m) (bRow l x (tabD l x k) a1 m) c' else bRow l x (tabD l x k) a1 m c'))) (fun c T2 => [(99, .int .i64 c)]) [(3, _), (7, _), (8, _), (9, _), (10, _), (11, _), (12, _), (13, _)] (fun c T2 => [(35, { elem := 69, cs := gI T2 (l.length * 8), room := l.length * 8, flat := true })]) [(13, _), (3, _)] (fun c T2 => 4 - c) (0) (_) (by exact ⟨rfl, trivial⟩) (by exact ⟨rfl, rfl, rfl, rfl, rfl, rfl, rfl, rfl, trivial⟩) (by exact ⟨rfl, rfl, rfl, rfl, rfl, rfl, trivial⟩) ?_ ?_
                          · refine ⟨by omega, ?_⟩
                            exact hT'.cong fun c' hc' => (by rw [if_neg (by omega)])
                          · intro c T2 L1 K1 e1 e2 hI
                            dsimp only [apV, apR, List.cons_append, List.nil_append] at e1 e2
                            subst e1 e2
                            obtain ⟨hc4, hT2⟩ := hI
                            refine sq ?_
                            refine rg ?_
                            refine st (h := O) ?_
                            refine nl ?_
                            refine sq ?_
                            refine cD (fun c6 => ?_) (fun c6 => ?_)
                            · have hc : c < 4 := by omega
                              refine sk ?_
                              refine sq ?_
                              refine bl ?_
                              refine sq ?_
                              refine rg ?_
                              iterate 2 (refine st (h := O) ?_)
                              refine nl ?_
                              refine sq ?_
                              refine rg ?_
                              refine st (h := O) ?_
                              refine st (h := sdLN) ?_
                              iterate 3 (refine st (h := O) ?_)
                              refine st (h := sdLN) ?_
                              refine cl (h := by exact fun ι hV hl => hDm _ (hp.le hl) _ _ _ _ _ _ _ _ _ (by omega) (by omega)) ?_
                              refine st (h := O) ?_
                              refine nl ?_
                              iterate 2 (refine sq ?_)
                              refine rg ?_
                              iterate 3 (refine st (h := O) ?_)
                              refine nl ?_
                              refine cD (fun c7 => ?_) (fun c7 => ?_)
                              · have hTc : T2 (0 + (((a1 + m : Nat) : Int) + 1).toNat * 8 + 4 + (judD l x a1 (a1 + m)).cls.toNat * 1) = (tabD l x k (a1 + m + 1) (judD l x a1 (a1 + m)).cls.toNat).2 := by
                                  rw [hT2.at4 (i := a1 + m + 1) (c := (judD l x a1 (a1 + m)).cls.toNat) (by omega) (by omega) (by omega)]
                                  simp only [setR]
                                  rw [if_neg (by omega)]
                                have htb := htk (a1 + m + 1) (judD l x a1 (a1 + m)).cls.toNat (by omega)
                                have htb1 := htb.cl
                                have htb2 := htb.ch
                                have hdb := demD_bd l x (judD l x a1 (a1 + m)).bad (judD l x a1 (a1 + m)).cls c ((a1 : Int) - 1) (a1 + m : Nat)
                                have hcst : demD l x (judD l x a1 (a1 + m)).bad (judD l x a1 (a1 + m)).cls c ((a1 : Int) - 1) (a1 + m : Nat) + T2 (0 + (((a1 + m : Nat) : Int) + 1).toNat * 8 + 4 + (judD l x a1 (a1 + m)).cls.toNat * 1) = cstB l x (tabD l x k) a1 (a1 + m) c := by
                                  rw [hTc]; unfold cstB; rw [if_pos (by omega)]
                                refine dr 12 [35, 13, 3] [0, 1, 2, 3, 4, 5, 6, 7, 8, 9, 10, 11] ?_
                                iterate 3 (refine dt (hv := by exact O) ?_)
                                refine dt (hv := by exact sdA) ?_
                                refine dt (hv := by exact sdFA) ?_
                                refine dt (hv := by exact sdL) ?_
                                refine dt (hv := by exact (sdX (z := 8))) ?_
                                refine dt (hv := by exact sdFA) ?_
                                refine dt (hv := by exact (sdXA (z := 1))) ?_
                                refine dt (hv := by exact (by first | exact sdLG | exact sdW)) ?_
                                refine dt (hv := by exact sdA) ?_
                                refine dt (hv := by exact O) ?_
                                refine dn ?_
                                refine sq ?_
                                rw [hcst]
                                have hA : T2 (0 + ((a1 : Int) - 1 + 1).toNat * 8 + 0 + (c : Int).toNat * 1) = (bRow l x (tabD l x k) a1 m c).1 := by
                                  rw [hT2.at (i := a1) (c := c) (by omega) (by omega) (by omega)]
                                  simp [setR]
                                have hB : T2 (0 + ((a1 : Int) - 1 + 1).toNat * 8 + 4 + (c : Int).toNat * 1) = (bRow l x (tabD l x k) a1 m c).2 := by
                                  rw [hT2.at4 (i := a1) (c := c) (by omega) (by omega) (by omega)]
                                  simp [setR]
                                refine rg ?_
                                iterate 3 (refine st (h := O) ?_)
                                refine st (h := sdFA) ?_
                                refine st (h := (sdXA (z := 1))) ?_
                                refine st (h := (by first | exact sdLG | exact sdW)) ?_
                                iterate 2 (refine st (h := O) ?_)
                                refine gD (fun g130 => ?_) (fun g130 => ?_)
                                · refine sp ?_
                                  iterate 7 (refine sp ?_)
                                  refine st (h := O) ?_
                                  refine nl ?_
                                  refine cT ?_
                                  refine dr 9 [35, 13, 3] [0, 1, 2002, 2003, 4, 2005, 2006, 2007, 8, 2010, 2011, 1009, 2012, 1013] ?_
                                  iterate 2 (refine dt (hv := by exact O) ?_)
                                  iterate 2 (refine dq (hv := by exact fun _ _ => O) ?_)
                                  refine dt (hv := by exact O) ?_
                                  iterate 2 (refine dq (hv := by exact fun _ _ => O) ?_)
                                  refine dq (hv := by exact fun _ _ => sdFA) ?_
                                  refine dt (hv := by exact (sdXA (z := 1))) ?_
                                  refine dq (hv := by exact fun _ _ => O) ?_
                                  refine dq (hv := by exact fun _ _ => sdFA) ?_
                                  first | refine dsoG ?_ | refine dso ?_
                                  refine dq (hv := by exact fun _ _ => (sdXA (z := 1))) ?_
                                  first | refine dsoG ?_ | refine dso ?_
                                  refine dn ?_
                                  refine bk ?_
                                  refine rg ?_
                                  refine st (h := sdA) ?_
                                  refine st (h := O) ?_
                                  refine nl ?_
                                  refine bk2 (c + 1) (_) (by exact ⟨rfl, trivial⟩) (by exact ⟨rfl, rfl, rfl, rfl, rfl, rfl, rfl, rfl, trivial⟩) (by exact ⟨rfl, rfl, rfl, rfl, rfl, rfl, trivial⟩) ?_ ?_
                                  · omega
                                  · refine ⟨by omega, ?_⟩
                                    have hu : updB l x (tabD l x k) a1 (a1 + m) (bRow l x (tabD l x k) a1 m) c = (((a1 + m : Nat) : Int), cstB l x (tabD l x k) a1 (a1 + m) c) := by unfold updB; rw [if_pos (.inl (hA ▸ g130))]
                                    refine hT2.upd hc (by omega) (by omega) ?_ (fun c' h1 h2 => ?_)
                                    · rw [if_pos (by omega), hu]
                                    · by_cases h : c' < c
                                      · rw [if_pos (by omega), if_pos h]
                                      · rw [if_neg (by omega), if_neg h]
                                · refine sg (h := O) ?_
                                  iterate 3 (refine sg (h := O) ?_)
                                  refine sg (h := sdFA) ?_
                                  refine sg (h := (sdXA (z := 1))) ?_
                                  refine sg (h := (by first | exact sdLG | exact sdW)) ?_
                                  refine sg (h := O) ?_
                                  refine st (h := O) ?_
                                  refine nl ?_
                                  refine cD (fun c8 => ?_) (fun c8 => ?_)
                                  · refine dr 9 [35, 13, 3] [0, 1, 2002, 2003, 4, 2005, 2006, 2007, 8, 2010, 2011, 1009, 2012, 1013] ?_
                                    iterate 2 (refine dt (hv := by exact O) ?_)
                                    iterate 2 (refine dq (hv := by exact fun _ _ => O) ?_)
                                    refine dt (hv := by exact O) ?_
                                    iterate 2 (refine dq (hv := by exact fun _ _ => O) ?_)
                                    refine dq (hv := by exact fun _ _ => sdFA) ?_
                                    refine dt (hv := by exact (sdXA (z := 1))) ?_
                                    refine dq (hv := by exact fun _ _ => O) ?_
                                    refine dq (hv := by exact fun _ _ => sdFA) ?_
                                    first | refine dsoG ?_ | refine dso ?_
                                    refine dq (hv := by exact fun _ _ => (sdXA (z := 1))) ?_
                                    first | refine dsoG ?_ | refine dso ?_
                                    refine dn ?_
                                    refine bk ?_
                                    refine rg ?_
                                    refine st (h := sdA) ?_
                                    refine st (h := O) ?_
                                    refine nl ?_
                                    refine bk2 (c + 1) (_) (by exact ⟨rfl, trivial⟩) (by exact ⟨rfl, rfl, rfl, rfl, rfl, rfl, rfl, rfl, trivial⟩) (by exact ⟨rfl, rfl, rfl, rfl, rfl, rfl, trivial⟩) ?_ ?_
                                    · omega
                                    · refine ⟨by omega, ?_⟩
                                      have hu : updB l x (tabD l x k) a1 (a1 + m) (bRow l x (tabD l x k) a1 m) c = (((a1 + m : Nat) : Int), cstB l x (tabD l x k) a1 (a1 + m) c) := by unfold updB; rw [if_pos (.inr (hB ▸ c8))]
                                      refine hT2.upd hc (by omega) (by omega) ?_ (fun c' h1 h2 => ?_)
                                      · rw [if_pos (by omega), hu]
                                      · by_cases h : c' < c
                                        · rw [if_pos (by omega), if_pos h]
                                        · rw [if_neg (by omega), if_neg h]
                                  · refine sk ?_
                                    refine bk ?_
                                    refine rg ?_
                                    refine st (h := sdA) ?_
                                    refine st (h := O) ?_
                                    refine nl ?_
                                    refine bk2 (c + 1) (_) (by exact ⟨rfl, trivial⟩) (by exact ⟨rfl, rfl, rfl, rfl, rfl, rfl, rfl, rfl, trivial⟩) (by exact ⟨rfl, rfl, rfl, rfl, rfl, rfl, trivial⟩) ?_ ?_
                                    · omega
                                    · refine ⟨by omega, ?_⟩
                                      have hu : updB l x (tabD l x k) a1 (a1 + m) (bRow l x (tabD l x k) a1 m) c = bRow l x (tabD l x k) a1 m c := by
                                        unfold updB
                                        rw [if_neg (by rintro (h | h); · exact g130 (hA.trans h)
                                                       · exact c8 (by rw [hB]; exact h))]
                                      refine hT2.cong fun c' h1 => ?_
                                      by_cases h2 : c' = c
                                      · subst h2; rw [if_pos (by omega), if_neg (by omega), hu]
                                      · by_cases h : c' < c
                                        · rw [if_pos (by omega), if_pos h]
                                        · rw [if_neg (by omega), if_neg h]
                              · have hcst : demD l x (judD l x a1 (a1 + m)).bad (judD l x a1 (a1 + m)).cls c ((a1 : Int) - 1) (a1 + m : Nat) = cstB l x (tabD l x k) a1 (a1 + m) c := by
                                  unfold cstB; rw [if_neg (by omega), Int.add_zero]
                                refine sk ?_
                                refine sq ?_
                                rw [hcst]
                                have hA : T2 (0 + ((a1 : Int) - 1 + 1).toNat * 8 + 0 + (c : Int).toNat * 1) = (bRow l x (tabD l x k) a1 m c).1 := by
                                  rw [hT2.at (i := a1) (c := c) (by omega) (by omega) (by omega)]
                                  simp [setR]
                                have hB : T2 (0 + ((a1 : Int) - 1 + 1).toNat * 8 + 4 + (c : Int).toNat * 1) = (bRow l x (tabD l x k) a1 m c).2 := by
                                  rw [hT2.at4 (i := a1) (c := c) (by omega) (by omega) (by omega)]
                                  simp [setR]
                                refine rg ?_
                                iterate 3 (refine st (h := O) ?_)
                                refine st (h := sdFA) ?_
                                refine st (h := (sdXA (z := 1))) ?_
                                refine st (h := (by first | exact sdLG | exact sdW)) ?_
                                iterate 2 (refine st (h := O) ?_)
                                refine gD (fun g130 => ?_) (fun g130 => ?_)
                                · refine sp ?_
                                  iterate 7 (refine sp ?_)
                                  refine st (h := O) ?_
                                  refine nl ?_
                                  refine cT ?_
                                  refine dr 9 [35, 13, 3] [0, 1, 2002, 2003, 4, 2005, 2006, 2007, 8, 2010, 2011, 1009, 2012, 1013] ?_
                                  iterate 2 (refine dt (hv := by exact O) ?_)
                                  iterate 2 (refine dq (hv := by exact fun _ _ => O) ?_)
                                  refine dt (hv := by exact O) ?_
                                  iterate 2 (refine dq (hv := by exact fun _ _ => O) ?_)
                                  refine dq (hv := by exact fun _ _ => sdFA) ?_
                                  refine dt (hv := by exact (sdXA (z := 1))) ?_
                                  refine dq (hv := by exact fun _ _ => O) ?_
                                  refine dq (hv := by exact fun _ _ => sdFA) ?_
                                  first | refine dsoG ?_ | refine dso ?_
                                  refine dq (hv := by exact fun _ _ => (sdXA (z := 1))) ?_
                                  first | refine dsoG ?_ | refine dso ?_
                                  refine dn ?_
                                  refine bk ?_
                                  refine rg ?_
                                  refine st (h := sdA) ?_
                                  refine st (h := O) ?_
                                  refine nl ?_
                                  refine bk2 (c + 1) (_) (by exact ⟨rfl, trivial⟩) (by exact ⟨rfl, rfl, rfl, rfl, rfl, rfl, rfl, rfl, trivial⟩) (by exact ⟨rfl, rfl, rfl, rfl, rfl, rfl, trivial⟩) ?_ ?_
                                  · omega
                                  · refine ⟨by omega, ?_⟩
                                    have hu : updB l x (tabD l x k) a1 (a1 + m) (bRow l x (tabD l x k) a1 m) c = (((a1 + m : Nat) : Int), cstB l x (tabD l x k) a1 (a1 + m) c) := by unfold updB; rw [if_pos (.inl (hA ▸ g130))]
                                    refine hT2.upd hc (by omega) (by omega) ?_ (fun c' h1 h2 => ?_)
                                    · rw [if_pos (by omega), hu]
                                    · by_cases h : c' < c
                                      · rw [if_pos (by omega), if_pos h]
                                      · rw [if_neg (by omega), if_neg h]
                                · refine sg (h := O) ?_
                                  iterate 3 (refine sg (h := O) ?_)
                                  refine sg (h := sdFA) ?_
                                  refine sg (h := (sdXA (z := 1))) ?_
                                  refine sg (h := (by first | exact sdLG | exact sdW)) ?_
                                  refine sg (h := O) ?_
                                  refine st (h := O) ?_
                                  refine nl ?_
                                  refine cD (fun c8 => ?_) (fun c8 => ?_)
                                  · refine dr 9 [35, 13, 3] [0, 1, 2002, 2003, 4, 2005, 2006, 2007, 8, 2010, 2011, 1009, 2012, 1013] ?_
                                    iterate 2 (refine dt (hv := by exact O) ?_)
                                    iterate 2 (refine dq (hv := by exact fun _ _ => O) ?_)
                                    refine dt (hv := by exact O) ?_
                                    iterate 2 (refine dq (hv := by exact fun _ _ => O) ?_)
                                    refine dq (hv := by exact fun _ _ => sdFA) ?_
                                    refine dt (hv := by exact (sdXA (z := 1))) ?_
                                    refine dq (hv := by exact fun _ _ => O) ?_
                                    refine dq (hv := by exact fun _ _ => sdFA) ?_
                                    first | refine dsoG ?_ | refine dso ?_
                                    refine dq (hv := by exact fun _ _ => (sdXA (z := 1))) ?_
                                    first | refine dsoG ?_ | refine dso ?_
                                    refine dn ?_
                                    refine bk ?_
                                    refine rg ?_
                                    refine st (h := sdA) ?_
                                    refine st (h := O) ?_
                                    refine nl ?_
                                    refine bk2 (c + 1) (_) (by exact ⟨rfl, trivial⟩) (by exact ⟨rfl, rfl, rfl, rfl, rfl, rfl, rfl, rfl, trivial⟩) (by exact ⟨rfl, rfl, rfl, rfl, rfl, rfl, trivial⟩) ?_ ?_
                                    · omega
                                    · refine ⟨by omega, ?_⟩
                                      have hu : updB l x (tabD l x k) a1 (a1 + m) (bRow l x (tabD l x k) a1 m) c = (((a1 + m : Nat) : Int), cstB l x (tabD l x k) a1 (a1 + m) c) := by unfold updB; rw [if_pos (.inr (hB ▸ c8))]
                                      refine hT2.upd hc (by omega) (by omega) ?_ (fun c' h1 h2 => ?_)
                                      · rw [if_pos (by omega), hu]
                                      · by_cases h : c' < c
                                        · rw [if_pos (by omega), if_pos h]
                                        · rw [if_neg (by omega), if_neg h]
                                  · refine sk ?_
                                    refine bk ?_
                                    refine rg ?_
                                    refine st (h := sdA) ?_
                                    refine st (h := O) ?_
                                    refine nl ?_
                                    refine bk2 (c + 1) (_) (by exact ⟨rfl, trivial⟩) (by exact ⟨rfl, rfl, rfl, rfl, rfl, rfl, rfl, rfl, trivial⟩) (by exact ⟨rfl, rfl, rfl, rfl, rfl, rfl, trivial⟩) ?_ ?_
                                    · omega
                                    · refine ⟨by omega, ?_⟩
                                      have hu : updB l x (tabD l x k) a1 (a1 + m) (bRow l x (tabD l x k) a1 m) c = bRow l x (tabD l x k) a1 m c := by
                                        unfold updB
                                        rw [if_neg (by rintro (h | h); · exact g130 (hA.trans h)
                                                       · exact c8 (by rw [hB]; exact h))]
                                      refine hT2.cong fun c' h1 => ?_
                                      by_cases h2 : c' = c
                                      · subst h2; rw [if_pos (by omega), if_neg (by omega), hu]
                                      · by_cases h : c' < c
                                        · rw [if_pos (by omega), if_pos h]
                                        · rw [if_neg (by omega), if_neg h]
                            · refine ex ?_
                              refine bk ?_
                              refine rg ?_
                              refine st (h := O) ?_
                              refine st (h := sdA) ?_
                              refine st (h := O) ?_
                              refine nl ?_
                              refine bk2 (_) (_) (by exact ⟨rfl, trivial⟩) (by exact ⟨rfl, rfl, rfl, rfl, rfl, rfl, trivial⟩) (by exact ⟨rfl, rfl, rfl, rfl, trivial⟩) ?_ ?_
                              · omega
                              · obtain rfl : c = 4 := by omega
                                refine ⟨by omega, by omega, ?_⟩
                                rw [show (((a1 + m : Nat) : Int) + 1 - a1).toNat = m + 1 from by omega, bRow, if_pos hok]
                                exact hT2.cong fun c' hc' => (by rw [if_pos hc'])
                  · refine ex ?_
                    refine bk ?_
                    refine rg ?_
                    refine st (h := O) ?_
                    refine st (h := sdS) ?_
                    refine st (h := O) ?_
                    refine nl ?_
                    refine bk3 (_) (k + 1) (_) (by exact ⟨rfl, trivial⟩) (by exact ⟨rfl, rfl, rfl, rfl, trivial⟩) (by exact ⟨rfl, rfl, rfl, rfl, trivial⟩) ?_ ?_
                    · omega
                    · have hlt : a1 = 0 ∨ legalB l ((a1 : Int) - 1) = true := by first | exact .inr (of_not c2) | exact .inl (by omega)
                      refine ⟨by omega, by omega, ?_⟩
                      rw [hrow hlt]
                      obtain rfl : b = foA l a1 + 1 := by omega
                      rwa [show ((foA l a1 : Int) + 1 - a1).toNat = foA l a1 + 1 - a1 from by omega] at hT'
            · refine sp ?_
              iterate 3 (refine sp ?_)
              refine st (h := O) ?_
              refine nl ?_
              refine cF ?_
              refine sk ?_
              refine sq ?_
              refine rg ?_
              iterate 2 (refine st (h := O) ?_)
              refine st (h := sdA) ?_
              refine st (h := (sdX (z := 8))) ?_
              refine st (h := O) ?_
              refine nl ?_
              refine sq ?_
              refine lb ?_
              refine sq ?_
              refine rg ?_
              refine st (h := O) ?_
              refine st (h := sdA) ?_
              refine st (h := O) ?_
              refine nl ?_
              refine bl ?_
              refine J.loop2 (α := Int) (β := Nat → Int) (fun b T' => (a1 : Int) ≤ b ∧ b ≤ foA l a1 + 1 ∧ TB l T' (setR (tabD l x k) a1 (bRow l x (tabD l x k) a1 (b - a1).toNat))) (fun b T' => [(12, .int .i64 b)]) [(3, _), (7, _), (8, _), (9, _), (10, _), (11, _)] (fun b T' => [(35, { elem := 69, cs := gI T' (l.length * 8), room := l.length * 8, flat := true })]) [(3, _)] (fun b T' => (foA l a1 + 1 - b).toNat) (_) (_) (by exact ⟨rfl, trivial⟩) (by exact ⟨rfl, rfl, rfl, rfl, rfl, rfl, trivial⟩) (by exact ⟨rfl, rfl, rfl, rfl, trivial⟩) ?_ ?_
              · refine ⟨by omega, by omega, ?_⟩
                rw [show ((a1 : Int) - 1 + 1 - a1).toNat = 0 from by omega, setR_id (by rw [tabD_none (by omega)]; rfl)]
                exact hTb
              · intro b T' L1 K1 e1 e2 hI
                dsimp only [apV, apR, List.cons_append, List.nil_append] at e1 e2
                subst e1 e2
                obtain ⟨hb0, hb1, hT'⟩ := hI
                iterate 2 (refine sq ?_)
                refine rg ?_
                iterate 3 (refine st (h := O) ?_)
                refine st (h := sdFA) ?_
                refine st (h := sdL) ?_
                refine st (h := O) ?_
                refine st (h := sdA) ?_
                refine st (h := (sdX (z := 1))) ?_
                refine st (h := (by first | exact sdLG | exact sdW)) ?_
                iterate 3 (refine st (h := O) ?_)
                refine nl ?_
                refine cD (fun c3 => ?_) (fun c3 => ?_)
                · rw [hmin] at c3
                  obtain ⟨b1, rfl⟩ := Int.eq_ofNat_of_zero_le (show (0 : Int) ≤ b by omega)
                  obtain ⟨m, rfl⟩ : ∃ m, b1 = a1 + m := ⟨b1 - a1, by omega⟩
                  rw [show ((a1 + m : Nat) : Int) - a1 = m from by omega, Int.toNat_natCast] at hT'
                  have hbl : a1 + m < l.length := by omega
                  have hj := judD_cls l x a1 (a1 + m)
                  refine sk ?_
                  refine sq ?_
                  refine bl ?_
                  iterate 2 (refine sq ?_)
                  refine rg ?_
                  iterate 2 (refine st (h := O) ?_)
                  refine cl (h := by exact fun ι hV hl => legal_C _ _ l _ (hp.le hl).head) ?_
                  refine st (h := O) ?_
                  refine nl ?_
                  refine cB (fun c4 => ?_) (fun c4 => ?_)
                  · refine ex ?_
                    refine rg ?_
                    refine st (h := O) ?_
                    refine st (h := sdA) ?_
                    refine st (h := O) ?_
                    refine nl ?_
                    refine bk2 (_) (_) (by exact ⟨rfl, trivial⟩) (by exact ⟨rfl, rfl, rfl, rfl, rfl, rfl, trivial⟩) (by exact ⟨rfl, rfl, rfl, rfl, trivial⟩) ?_ ?_
                    · omega
                    · refine ⟨by omega, by omega, ?_⟩
                      rw [show (((a1 + m : Nat) : Int) + 1 - a1).toNat = m + 1 from by omega, bRow, if_neg (by simp only [okB, Bool.and_eq_true]; exact fun h => not_of c4 h.1)]
                      exact hT'
                  · refine sk ?_
                    refine sq ?_
                    refine rg ?_
                    iterate 3 (refine st (h := O) ?_)
                    refine st (h := sdLN) ?_
                    refine cl (h := by exact fun ι hV hl => hJ _ (hp.le hl) _ a1 (a1 + m) hgl hgx ha1 (by omega) (by omega)) ?_
                    refine al ?_
                    refine so ?_
                    refine nl ?_
                    iterate 2 (refine sq ?_)
                    refine dr 20 [13, 35, 3] [0, 1, 2, 3, 4, 5, 6, 7, 8, 9, 10, 11, 12, 13, 14, 15, 16, 17, 18, 19] ?_
                    refine dt (hv := by exact sdFA) ?_
                    refine dt (hv := by exact sdL) ?_
                    iterate 2 (refine dt (hv := by exact O) ?_)
                    refine dgB (fun g82 => ?_) (fun g82 => ?_)
                    · refine dp ?_
                      iterate 3 (refine dp ?_)
                      iterate 10 (refine du ?_)
                      refine dp ?_
                      refine dt (hv := by exact O) ?_
                      refine dn ?_
                      refine cT ?_
                      refine ex ?_
                      refine rg ?_
                      refine st (h := O) ?_
                      refine st (h := sdA) ?_
                      refine st (h := O) ?_
                      refine nl ?_
                      refine bk2 (_) (_) (by exact ⟨rfl, trivial⟩) (by exact ⟨rfl, rfl, rfl, rfl, rfl, rfl, trivial⟩) (by exact ⟨rfl, rfl, rfl, rfl, trivial⟩) ?_ ?_
                      · omega
                      · refine ⟨by omega, by omega, ?_⟩
                        rw [show (((a1 + m : Nat) : Int) + 1 - a1).toNat = m + 1 from by omega, bRow, if_neg (by simp only [okB, Bool.and_eq_true]; exact fun h => not_of g82 h.2.1)]
                        exact hT'
                    · refine dg (hv := by exact O) ?_
                      iterate 3 (refine dg (hv := by exact O) ?_)
                      refine dgD (fun g86 => ?_) (fun g86 => ?_)
                      · have hTn : T' (0 + (((a1 + m : Nat) : Int) + 1).toNat * 8 + 0 + (judD l x a1 (a1 + m)).cls.toNat * 1) = (tabD l x k (a1 + m + 1) (judD l x a1 (a1 + m)).cls.toNat).1 := by
                          rw [hT'.at (i := a1 + m + 1) (c := (judD l x a1 (a1 + m)).cls.toNat) (by omega) (by omega) (by omega)]
                          simp only [setR]
                          rw [if_neg (by omega)]
                        iterate 2 (refine dg (hv := by exact O) ?_)
                        refine dg (hv := by exact sdA) ?_
                        refine dg (hv := by exact sdFA) ?_
                        refine dg (hv := by exact sdL) ?_
                        refine dg (hv := by exact (sdX (z := 8))) ?_
                        refine dg (hv := by exact sdFA) ?_
                        refine dg (hv := by exact (sdXA (z := 1))) ?_
                        refine dg (hv := by exact (by first | exact sdLG | exact sdW)) ?_
                        iterate 2 (refine dg (hv := by exact O) ?_)
                        refine dt (hv := by exact O) ?_
                        refine dn ?_
                        refine cD (fun c5 => ?_) (fun c5 => ?_)
                        · refine ex ?_
                          refine rg ?_
                          refine st (h := O) ?_
                          refine st (h := sdA) ?_
                          refine st (h := O) ?_
                          refine nl ?_
                          refine bk2 (_) (_) (by exact ⟨rfl, trivial⟩) (by exact ⟨rfl, rfl, rfl, rfl, rfl, rfl, trivial⟩) (by exact ⟨rfl, rfl, rfl, rfl, trivial⟩) ?_ ?_
                          · omega
                          · refine ⟨by omega, by omega, ?_⟩
                            rw [show (((a1 + m : Nat) : Int) + 1 - a1).toNat = m + 1 from by omega, bRow, if_neg (by
                              simp only [okB, Bool.and_eq_true, Bool.or_eq_true, Bool.not_eq_true', decide_eq_false_iff_not]
                              rintro ⟨-, -, h | h⟩
                              · omega
                              · exact h (hTn ▸ c5))]
                            exact hT'
                        · have hok : okB l x (tabD l x k) a1 (a1 + m) = true := by
                            simp only [okB, Bool.and_eq_true, Bool.or_eq_true, Bool.not_eq_true', decide_eq_false_iff_not]
                            exact ⟨of_not c4, of_not g82, .inr (fun h => c5 (hTn.trans h))⟩
                          refine sk ?_
                          refine sq ?_
                          refine rg ?_
                          refine st (h := O) ?_
                          refine nl ?_
                          refine bl ?_
                          refine J.loop2 (α := Nat) (β := Nat → Int) (fun c T2 => c ≤ 4 ∧ TB l T2 (setR (tabD l x k) a1 (fun c' => if c' < c then updB l x (tabD l x k) a1 (a1 + m) (bRow l x (tabD l x k) a1 m) c' else bRow l x (tabD l x k) a1 m c'))) (fun c T2 => [(99, .int .i64 c)]) [(3, _), (7, _), (8, _), (9, _), (10, _), (11, _), (12, _), (13, _)] (fun c T2 => [(35, { elem := 69, cs := gI T2 (l.length * 8), room := l.length * 8, flat := true })]) [(13, _), (3, _)] (fun c T2 => 4 - c) (0) (_) (by exact ⟨rfl, trivial⟩) (by exact ⟨rfl, rfl, rfl, rfl, rfl, rfl, rfl, rfl, trivial⟩) (by exact ⟨rfl, rfl, rfl, rfl, rfl, rfl, trivial⟩) ?_ ?_
                          · refine ⟨by omega, ?_⟩
                            exact hT'.cong fun c' hc' => (by rw [if_neg (by omega)])
                          · intro c T2 L1 K1 e1 e2 hI
                            dsimp only [apV, apR, List.cons_append, List.nil_append] at e1 e2
                            subst e1 e2
                            obtain ⟨hc4, hT2⟩ := hI
                            refine sq ?_
                            refine rg ?_
                            refine st (h := O) ?_
                            refine nl ?_
                            refine sq ?_
                            refine cD (fun c6 => ?_) (fun c6 => ?_)
                            · have hc : c < 4 := by omega
                              refine sk ?_
                              refine sq ?_
                              refine bl ?_
                              refine sq ?_
                              refine rg ?_
                              iterate 2 (refine st (h := O) ?_)
                              refine nl ?_
                              refine sq ?_
                              refine rg ?_
                              refine st (h := O) ?_
                              refine st (h := sdLN) ?_
                              iterate 3 (refine st (h := O) ?_)
                              refine st (h := sdLN) ?_
                              refine cl (h := by exact fun ι hV hl => hDm _ (hp.le hl) _ _ _ _ _ _ _ _ _ (by omega) (by omega)) ?_
                              refine st (h := O) ?_
                              refine nl ?_
                              iterate 2 (refine sq ?_)
                              refine rg ?_
                              iterate 3 (refine st (h := O) ?_)
                              refine nl ?_
                              refine cD (fun c7 => ?_) (fun c7 => ?_)
                              · have hTc : T2 (0 + (((a1 + m : Nat) : Int) + 1).toNat * 8 + 4 + (judD l x a1 (a1 + m)).cls.toNat * 1) = (tabD l x k (a1 + m + 1) (judD l x a1 (a1 + m)).cls.toNat).2 := by
                                  rw [hT2.at4 (i := a1 + m + 1) (c := (judD l x a1 (a1 + m)).cls.toNat) (by omega) (by omega) (by omega)]
                                  simp only [setR]
                                  rw [if_neg (by omega)]
                                have htb := htk (a1 + m + 1) (judD l x a1 (a1 + m)).cls.toNat (by omega)
                                have htb1 := htb.cl
                                have htb2 := htb.ch
                                have hdb := demD_bd l x (judD l x a1 (a1 + m)).bad (judD l x a1 (a1 + m)).cls c ((a1 : Int) - 1) (a1 + m : Nat)
                                have hcst : demD l x (judD l x a1 (a1 + m)).bad (judD l x a1 (a1 + m)).cls c ((a1 : Int) - 1) (a1 + m : Nat) + T2 (0 + (((a1 + m : Nat) : Int) + 1).toNat * 8 + 4 + (judD l x a1 (a1 + m)).cls.toNat * 1) = cstB l x (tabD l x k) a1 (a1 + m) c := by
                                  rw [hTc]; unfold cstB; rw [if_pos (by omega)]
                                refine dr 12 [35, 13, 3] [0, 1, 2, 3, 4, 5, 6, 7, 8, 9, 10, 11] ?_
                                iterate 3 (refine dt (hv := by exact O) ?_)
                                refine dt (hv := by exact sdA) ?_
                                refine dt (hv := by exact sdFA) ?_
                                refine dt (hv := by exact sdL) ?_
                                refine dt (hv := by exact (sdX (z := 8))) ?_
                                refine dt (hv := by exact sdFA) ?_
                                refine dt (hv := by exact (sdXA (z := 1))) ?_
                                refine dt (hv := by exact (by first | exact sdLG | exact sdW)) ?_
                                refine dt (hv := by exact sdA) ?_
                                refine dt (hv := by exact O) ?_
                                refine dn ?_
                                refine sq ?_
                                rw [hcst]
                                have hA : T2 (0 + ((a1 : Int) - 1 + 1).toNat * 8 + 0 + (c : Int).toNat * 1) = (bRow l x (tabD l x k) a1 m c).1 := by
                                  rw [hT2.at (i := a1) (c := c) (by omega) (by omega) (by omega)]
                                  simp [setR]
                                have hB : T2 (0 + ((a1 : Int) - 1 + 1).toNat * 8 + 4 + (c : Int).toNat * 1) = (bRow l x (tabD l x k) a1 m c).2 := by
                                  rw [hT2.at4 (i := a1) (c := c) (by omega) (by omega) (by omega)]
                                  simp [setR]
                                refine rg ?_
                                iterate 3 (refine st (h := O) ?_)
                                refine st (h := sdFA) ?_
                                refine st (h := (sdXA (z := 1))) ?_
                                refine st (h := (by first | exact sdLG | exact sdW)) ?_
                                iterate 2 (refine st (h := O) ?_)
                                refine gD (fun g130 => ?_) (fun g130 => ?_)
                                · refine sp ?_
                                  iterate 7 (refine sp ?_)
                                  refine st (h := O) ?_
                                  refine nl ?_
                                  refine cT ?_
                                  refine dr 9 [35, 13, 3] [0, 1, 2002, 2003, 4, 2005, 2006, 2007, 8, 2010, 2011, 1009, 2012, 1013] ?_
                                  iterate 2 (refine dt (hv := by exact O) ?_)
                                  iterate 2 (refine dq (hv := by exact fun _ _ => O) ?_)
                                  refine dt (hv := by exact O) ?_
                                  iterate 2 (refine dq (hv := by exact fun _ _ => O) ?_)
                                  refine dq (hv := by exact fun _ _ => sdFA) ?_
                                  refine dt (hv := by exact (sdXA (z := 1))) ?_
                                  refine dq (hv := by exact fun _ _ => O) ?_
                                  refine dq (hv := by exact fun _ _ => sdFA) ?_
                                  first | refine dsoG ?_ | refine dso ?_
                                  refine dq (hv := by exact fun _ _ => (sdXA (z := 1))) ?_
                                  first | refine dsoG ?_ | refine dso ?_
                                  refine dn ?_
                                  refine bk ?_
                                  refine rg ?_
                                  refine st (h := sdA) ?_
                                  refine st (h := O) ?_
                                  refine nl ?_
                                  refine bk2 (c + 1) (_) (by exact ⟨rfl, trivial⟩) (by exact ⟨rfl, rfl, rfl, rfl, rfl, rfl, rfl, rfl, trivial⟩) (by exact ⟨rfl, rfl, rfl, rfl, rfl, rfl, trivial⟩) ?_ ?_
                                  · omega
                                  · refine ⟨by omega, ?_⟩
                                    have hu : updB l x (tabD l x k) a1 (a1 + m) (bRow l x (tabD l x k) a1 m) c = (((a1 + m : Nat) : Int), cstB l x (tabD l x k) a1 (a1 + m) c) := by unfold updB; rw [if_pos (.inl (hA ▸ g130))]
                                    refine hT2.upd hc (by omega) (by omega) ?_ (fun c' h1 h2 => ?_)
                                    · rw [if_pos (by omega), hu]
                                    · by_cases h : c' < c
                                      · rw [if_pos (by omega), if_pos h]
                                      · rw [if_neg (by omega), if_neg h]
                                · refine sg (h := O) ?_
                                  iterate 3 (refine sg (h := O) ?_)
                                  refine sg (h := sdFA) ?_
                                  refine sg (h := (sdXA (z := 1))) ?_
                                  refine sg (h := (by first | exact sdLG | exact sdW)) ?_
                                  refine sg (h := O) ?_
                                  refine st (h := O) ?_
                                  refine nl ?_
                                  refine cD (fun c8 => ?_) (fun c8 => ?_)
                                  · refine dr 9 [35, 13, 3] [0, 1, 2002, 2003, 4, 2005, 2006, 2007, 8, 2010, 2011, 1009, 2012, 1013] ?_
                                    iterate 2 (refine dt (hv := by exact O) ?_)
                                    iterate 2 (refine dq (hv := by exact fun _ _ => O) ?_)
                                    refine dt (hv := by exact O) ?_
                                    iterate 2 (refine dq (hv := by exact fun _ _ => O) ?_)
                                    refine dq (hv := by exact fun _ _ => sdFA) ?_
                                    refine dt (hv := by exact (sdXA (z := 1))) ?_
                                    refine dq (hv := by exact fun _ _ => O) ?_
                                    refine dq (hv := by exact fun _ _ => sdFA) ?_
                                    first | refine dsoG ?_ | refine dso ?_
                                    refine dq (hv := by exact fun _ _ => (sdXA (z := 1))) ?_
                                    first | refine dsoG ?_ | refine dso ?_
                                    refine dn ?_
                                    refine bk ?_
                                    refine rg ?_
                                    refine st (h := sdA) ?_
                                    refine st (h := O) ?_
                                    refine nl ?_
                                    refine bk2 (c + 1) (_) (by exact ⟨rfl, trivial⟩) (by exact ⟨rfl, rfl, rfl, rfl, rfl, rfl, rfl, rfl, trivial⟩) (by exact ⟨rfl, rfl, rfl, rfl, rfl, rfl, trivial⟩) ?_ ?_
                                    · omega
                                    · refine ⟨by omega, ?_⟩
                                      have hu : updB l x (tabD l x k) a1 (a1 + m) (bRow l x (tabD l x k) a1 m) c = (((a1 + m : Nat) : Int), cstB l x (tabD l x k) a1 (a1 + m) c) := by unfold updB; rw [if_pos (.inr (hB ▸ c8))]
                                      refine hT2.upd hc (by omega) (by omega) ?_ (fun c' h1 h2 => ?_)
                                      · rw [if_pos (by omega), hu]
                                      · by_cases h : c' < c
                                        · rw [if_pos (by omega), if_pos h]
                                        · rw [if_neg (by omega), if_neg h]
                                  · refine sk ?_
                                    refine bk ?_
                                    refine rg ?_
                                    refine st (h := sdA) ?_
                                    refine st (h := O) ?_
                                    refine nl ?_
                                    refine bk2 (c + 1) (_) (by exact ⟨rfl, trivial⟩) (by exact ⟨rfl, rfl, rfl, rfl, rfl, rfl, rfl, rfl, trivial⟩) (by exact ⟨rfl, rfl, rfl, rfl, rfl, rfl, trivial⟩) ?_ ?_
                                    · omega
                                    · refine ⟨by omega, ?_⟩
                                      have hu : updB l x (tabD l x k) a1 (a1 + m) (bRow l x (tabD l x k) a1 m) c = bRow l x (tabD l x k) a1 m c := by
                                        unfold updB
                                        rw [if_neg (by rintro (h | h); · exact g130 (hA.trans h)
                                                       · exact c8 (by rw [hB]; exact h))]
                                      refine hT2.cong fun c' h1 => ?_
                                      by_cases h2 : c' = c
                                      · subst h2; rw [if_pos (by omega), if_neg (by omega), hu]
                                      · by_cases h : c' < c
                                        · rw [if_pos (by omega), if_pos h]
                                        · rw [if_neg (by omega), if_neg h]
                              · have hcst : demD l x (judD l x a1 (a1 + m)).bad (judD l x a1 (a1 + m)).cls c ((a1 : Int) - 1) (a1 + m : Nat) = cstB l x (tabD l x k) a1 (a1 + m) c := by
                                  unfold cstB; rw [if_neg (by omega), Int.add_zero]
                                refine sk ?_
                                refine sq ?_
                                rw [hcst]
                                have hA : T2 (0 + ((a1 : Int) - 1 + 1).toNat * 8 + 0 + (c : Int).toNat * 1) = (bRow l x (tabD l x k) a1 m c).1 := by
                                  rw [hT2.at (i := a1) (c := c) (by omega) (by omega) (by omega)]
                                  simp [setR]
                                have hB : T2 (0 + ((a1 : Int) - 1 + 1).toNat * 8 + 4 + (c : Int).toNat * 1) = (bRow l x (tabD l x k) a1 m c).2 := by
                                  rw [hT2.at4 (i := a1) (c := c) (by omega) (by omega) (by omega)]
                                  simp [setR]
                                refine rg ?_
                                iterate 3 (refine st (h := O) ?_)
                                refine st (h := sdFA) ?_
                                refine st (h := (sdXA (z := 1))) ?_
                                refine st (h := (by first | exact sdLG | exact sdW)) ?_
                                iterate 2 (refine st (h := O) ?_)
                                refine gD (fun g130 => ?_) (fun g130 => ?_)
                                · refine sp ?_
                                  iterate 7 (refine sp ?_)
                                  refine st (h := O) ?_
                                  refine nl ?_
                                  refine cT ?_
                                  refine dr 9 [35, 13, 3] [0, 1, 2002, 2003, 4, 2005, 2006, 2007, 8, 2010, 2011, 1009, 2012, 1013] ?_
                                  iterate 2 (refine dt (hv := by exact O) ?_)
                                  iterate 2 (refine dq (hv := by exact fun _ _ => O) ?_)
                                  refine dt (hv := by exact O) ?_
                                  iterate 2 (refine dq (hv := by exact fun _ _ => O) ?_)
                                  refine dq (hv := by exact fun _ _ => sdFA) ?_
                                  refine dt (hv := by exact (sdXA (z := 1))) ?_
                                  refine dq (hv := by exact fun _ _ => O) ?_
                                  refine dq (hv := by exact fun _ _ => sdFA) ?_
                                  first | refine dsoG ?_ | refine dso ?_
                                  refine dq (hv := by exact fun _ _ => (sdXA (z := 1))) ?_
                                  first | refine dsoG ?_ | refine dso ?_
                                  refine dn ?_
                                  refine bk ?_
                                  refine rg ?_
                                  refine st (h := sdA) ?_
                                  refine st (h := O) ?_
                                  refine nl ?_
                                  refine bk2 (c + 1) (_) (by exact ⟨rfl, trivial⟩) (by exact ⟨rfl, rfl, rfl, rfl, rfl, rfl, rfl, rfl, trivial⟩) (by exact ⟨rfl, rfl, rfl, rfl, rfl, rfl, trivial⟩) ?_ ?_
                                  · omega
                                  · refine ⟨by omega, ?_⟩
                                    have hu : updB l x (tabD l x k) a1 (a1 + m) (bRow l x (tabD l x k) a1 m) c = (((a1 + m : Nat) : Int), cstB l x (tabD l x k) a1 (a1 + m) c) := by unfold updB; rw [if_pos (.inl (hA ▸ g130))]
                                    refine hT2.upd hc (by omega) (by omega) ?_ (fun c' h1 h2 => ?_)
                                    · rw [if_pos (by omega), hu]
                                    · by_cases h : c' < c
                                      · rw [if_pos (by omega), if_pos h]
                                      · rw [if_neg (by omega), if_neg h]
                                · refine sg (h := O) ?_
                                  iterate 3 (refine sg (h := O) ?_)
                                  refine sg (h := sdFA) ?_
                                  refine sg (h := (sdXA (z := 1))) ?_
                                  refine sg (h := (by first | exact sdLG | exact sdW)) ?_
                                  refine sg (h := O) ?_
                                  refine st (h := O) ?_
                                  refine nl ?_
                                  refine cD (fun c8 => ?_) (fun c8 => ?_)
                                  · refine dr 9 [35, 13, 3] [0, 1, 2002, 2003, 4, 2005, 2006, 2007, 8, 2010, 2011, 1009, 2012, 1013] ?_
                                    iterate 2 (refine dt (hv := by exact O) ?_)
                                    iterate 2 (refine dq (hv := by exact fun _ _ => O) ?_)
                                    refine dt (hv := by exact O) ?_
                                    iterate 2 (refine dq (hv := by exact fun _ _ => O) ?_)
                                    refine dq (hv := by exact fun _ _ => sdFA) ?_
                                    refine dt (hv := by exact (sdXA (z := 1))) ?_
                                    refine dq (hv := by exact fun _ _ => O) ?_
                                    refine dq (hv := by exact fun _ _ => sdFA) ?_
                                    first | refine dsoG ?_ | refine dso ?_
                                    refine dq (hv := by exact fun _ _ => (sdXA (z := 1))) ?_
                                    first | refine dsoG ?_ | refine dso ?_
                                    refine dn ?_
                                    refine bk ?_
                                    refine rg ?_
                                    refine st (h := sdA) ?_
                                    refine st (h := O) ?_
                                    refine nl ?_
                                    refine bk2 (c + 1) (_) (by exact ⟨rfl, trivial⟩) (by exact ⟨rfl, rfl, rfl, rfl, rfl, rfl, rfl, rfl, trivial⟩) (by exact ⟨rfl, rfl, rfl, rfl, rfl, rfl, trivial⟩) ?_ ?_
                                    · omega
                                    · refine ⟨by omega, ?_⟩
                                      have hu : updB l x (tabD l x k) a1 (a1 + m) (bRow l x (tabD l x k) a1 m) c = (((a1 + m : Nat) : Int), cstB l x (tabD l x k) a1 (a1 + m) c) := by unfold updB; rw [if_pos (.inr (hB ▸ c8))]
                                      refine hT2.upd hc (by omega) (by omega) ?_ (fun c' h1 h2 => ?_)
                                      · rw [if_pos (by omega), hu]
                                      · by_cases h : c' < c
                                        · rw [if_pos (by omega), if_pos h]
                                        · rw [if_neg (by omega), if_neg h]
                                  · refine sk ?_
                                    refine bk ?_
                                    refine rg ?_
                                    refine st (h := sdA) ?_
                                    refine st (h := O) ?_
                                    refine nl ?_
                                    refine bk2 (c + 1) (_) (by exact ⟨rfl, trivial⟩) (by exact ⟨rfl, rfl, rfl, rfl, rfl, rfl, rfl, rfl, trivial⟩) (by exact ⟨rfl, rfl, rfl, rfl, rfl, rfl, trivial⟩) ?_ ?_
                                    · omega
                                    · refine ⟨by omega, ?_⟩
                                      have hu : updB l x (tabD l x k) a1 (a1 + m) (bRow l x (tabD l x k) a1 m) c = bRow l x (tabD l x k) a1 m c := by
                                        unfold updB
                                        rw [if_neg (by rintro (h | h); · exact g130 (hA.trans h)
                                                       · exact c8 (by rw [hB]; exact h))]
                                      refine hT2.cong fun c' h1 => ?_
                                      by_cases h2 : c' = c
                                      · subst h2; rw [if_pos (by omega), if_neg (by omega), hu]
                                      · by_cases h : c' < c
                                        · rw [if_pos (by omega), if_pos h]
                                        · rw [if_neg (by omega), if_neg h]
                            · refine ex ?_
                              refine bk ?_
                              refine rg ?_
                              refine st (h := O) ?_
                              refine st (h := sdA) ?_
                              refine st (h := O) ?_
                              refine nl ?_
                              refine bk2 (_) (_) (by exact ⟨rfl, trivial⟩) (by exact ⟨rfl, rfl, rfl, rfl, rfl, rfl, trivial⟩) (by exact ⟨rfl, rfl, rfl, rfl, trivial⟩) ?_ ?_
                              · omega
                              · obtain rfl : c = 4 := by omega
                                refine ⟨by omega, by omega, ?_⟩
                                rw [show (((a1 + m : Nat) : Int) + 1 - a1).toNat = m + 1 from by omega, bRow, if_pos hok]
                                exact hT2.cong fun c' hc' => (by rw [if_pos hc'])
                      · have hok : okB l x (tabD l x k) a1 (a1 + m) = true := by
                          simp only [okB, Bool.and_eq_true, Bool.or_eq_true, Bool.not_eq_true', decide_eq_false_iff_not]
                          exact ⟨of_not c4, of_not g82, .inl (by omega)⟩
                        iterate 10 (refine dp ?_)
                        refine dg (hv := by exact O) ?_
                        refine dt (hv := by exact O) ?_
                        refine dn ?_
                        refine cF ?_
                        refine sk ?_
                        refine sq ?_
                        refine rg ?_
                        refine st (h := O) ?_
                        refine nl ?_
                        refine bl ?_
                        refine J.loop2 (α := Nat) (β := Nat → Int) (fun c T2 => c ≤ 4 ∧ TB l T2 (setR (tabD l x k) a1 (fun c' => if c' < c then updB l x (tabD l x k) a1 (a1 + m) (bRow l x (tabD l x k) a1 m) c' else bRow l x (tabD l x k) a1 m c'))) (fun c T2 => [(99, .int .i64 c)]) [(3, _), (7, _), (8, _), (9, _), (10, _), (11, _), (12, _), (13, _)] (fun c T2 => [(35, { elem := 69, cs := gI T2 (l.length * 8), room := l.length * 8, flat := true })]) [(13, _), (3, _)] (fun c T2 => 4 - c) (0) (_) (by exact ⟨rfl, trivial⟩) (by exact ⟨rfl, rfl, rfl, rfl, rfl, rfl, rfl, rfl, trivial⟩) (by exact ⟨rfl, rfl, rfl, rfl, rfl, rfl, trivial⟩) ?_ ?_
                        · refine ⟨by omega, ?_⟩
                          exact hT'.cong fun c' hc' => (by rw [if_neg (by omega)])
                        · intro c T2 L1 K1 e1 e2 hI
                          dsimp only [apV, apR, List.cons_append, List.nil_append] at e1 e2
                          subst e1 e2
                          obtain ⟨hc4, hT2⟩ := hI
                          refine sq ?_
                          refine rg ?_
                          refine st (h := O) ?_
                          refine nl ?_
                          refine sq ?_
                          refine cD (fun c6 => ?_) (fun c6 => ?_)
                          · have hc : c < 4 := by omega
                            refine sk ?_
                            refine sq ?_
                            refine bl ?_
                            refine sq ?_
                            refine rg ?_
                            iterate 2 (refine st (h := O) ?_)
                            refine nl ?_
                            refine sq ?_
                            refine rg ?_
                            refine st (h := O) ?_
                            refine st (h := sdLN) ?_
                            iterate 3 (refine st (h := O) ?_)
                            refine st (h := sdLN) ?_
                            refine cl (h := by exact fun ι hV hl => hDm _ (hp.le hl) _ _ _ _ _ _ _ _ _ (by omega) (by omega)) ?_
                            refine st (h := O) ?_
                            refine nl ?_
                            iterate 2 (refine sq ?_)
                            refine rg ?_
                            iterate 3 (refine st (h := O) ?_)
                            refine nl ?_
                            refine cD (fun c7 => ?_) (fun c7 => ?_)
                            · have hTc : T2 (0 + (((a1 + m : Nat) : Int) + 1).toNat * 8 + 4 + (judD l x a1 (a1 + m)).cls.toNat * 1) = (tabD l x k (a1 + m + 1) (judD l x a1 (a1 + m)).cls.toNat).2 := by
                                rw [hT2.at4 (i := a1 + m + 1) (c := (judD l x a1 (a1 + m)).cls.toNat) (by omega) (by omega) (by omega)]
                                simp only [setR]
                                rw [if_neg (by omega)]
                              have htb := htk (a1 + m + 1) (judD l x a1 (a1 + m)).cls.toNat (by omega)
                              have htb1 := htb.cl
                              have htb2 := htb.ch
                              have hdb := demD_bd l x (judD l x a1 (a1 + m)).bad (judD l x a1 (a1 + m)).cls c ((a1 : Int) - 1) (a1 + m : Nat)
                              have hcst : demD l x (judD l x a1 (a1 + m)).bad (judD l x a1 (a1 + m)).cls c ((a1 : Int) - 1) (a1 + m : Nat) + T2 (0 + (((a1 + m : Nat) : Int) + 1).toNat * 8 + 4 + (judD l x a1 (a1 + m)).cls.toNat * 1) = cstB l x (tabD l x k) a1 (a1 + m) c := by
                                rw [hTc]; unfold cstB; rw [if_pos (by omega)]
                              refine dr 12 [35, 13, 3] [0, 1, 2, 3, 4, 5, 6, 7, 8, 9, 10, 11] ?_
                              iterate 3 (refine dt (hv := by exact O) ?_)
                              refine dt (hv := by exact sdA) ?_
                              refine dt (hv := by exact sdFA) ?_
                              refine dt (hv := by exact sdL) ?_
                              refine dt (hv := by exact (sdX (z := 8))) ?_
                              refine dt (hv := by exact sdFA) ?_
                              refine dt (hv := by exact (sdXA (z := 1))) ?_
                              refine dt (hv := by exact (by first | exact sdLG | exact sdW)) ?_
                              refine dt (hv := by exact sdA) ?_
                              refine dt (hv := by exact O) ?_
                              refine dn ?_
                              refine sq ?_
                              rw [hcst]
                              have hA : T2 (0 + ((a1 : Int) - 1 + 1).toNat * 8 + 0 + (c : Int).toNat * 1) = (bRow l x (tabD l x k) a1 m c).1 := by
                                rw [hT2.at (i := a1) (c := c) (by omega) (by omega) (by omega)]
                                simp [setR]
                              have hB : T2 (0 + ((a1 : Int) - 1 + 1).toNat * 8 + 4 + (c : Int).toNat * 1) = (bRow l x (tabD l x k) a1 m c).2 := by
                                rw [hT2.at4 (i := a1) (c := c) (by omega) (by omega) (by omega)]
                                simp [setR]
                              refine rg ?_
                              iterate 3 (refine st (h := O) ?_)
                              refine st (h := sdFA) ?_
                              refine st (h := (sdXA (z := 1))) ?_
                              refine st (h := (by first | exact sdLG | exact sdW)) ?_
                              iterate 2 (refine st (h := O) ?_)
                              refine gD (fun g130 => ?_) (fun g130 => ?_)
                              · refine sp ?_
                                iterate 7 (refine sp ?_)
                                refine st (h := O) ?_
                                refine nl ?_
                                refine cT ?_
                                refine dr 9 [35, 13, 3] [0, 1, 2002, 2003, 4, 2005, 2006, 2007, 8, 2010, 2011, 1009, 2012, 1013] ?_
                                iterate 2 (refine dt (hv := by exact O) ?_)
                                iterate 2 (refine dq (hv := by exact fun _ _ => O) ?_)
                                refine dt (hv := by exact O) ?_
                                iterate 2 (refine dq (hv := by exact fun _ _ => O) ?_)
                                refine dq (hv := by exact fun _ _ => sdFA) ?_
                                refine dt (hv := by exact (sdXA (z := 1))) ?_
                                refine dq (hv := by exact fun _ _ => O) ?_
                                refine dq (hv := by exact fun _ _ => sdFA) ?_
                                first | refine dsoG ?_ | refine dso ?_
                                refine dq (hv := by exact fun _ _ => (sdXA (z := 1))) ?_
                                first | refine dsoG ?_ | refine dso ?_
                                refine dn ?_
                                refine bk ?_
                                refine rg ?_
                                refine st (h := sdA) ?_
                                refine st (h := O) ?_
                                refine nl ?_
                                refine bk2 (c + 1) (_) (by exact ⟨rfl, trivial⟩) (by exact ⟨rfl, rfl, rfl, rfl, rfl, rfl, rfl, rfl, trivial⟩) (by exact ⟨rfl, rfl, rfl, rfl, rfl, rfl, trivial⟩) ?_ ?_
                                · omega
                                · refine ⟨by omega, ?_⟩
                                  have hu : updB l x (tabD l x k) a1 (a1 + m) (bRow l x (tabD l x k) a1 m) c = (((a1 + m : Nat) : Int), cstB l x (tabD l x k) a1 (a1 + m) c) := by unfold updB; rw [if_pos (.inl (hA ▸ g130))]
                                  refine hT2.upd hc (by omega) (by omega) ?_ (fun c' h1 h2 => ?_)
                                  · rw [if_pos (by omega), hu]
                                  · by_cases h : c' < c
                                    · rw [if_pos (by omega), if_pos h]
                                    · rw [if_neg (by omega), if_neg h]
                              · refine sg (h := O) ?_
                                iterate 3 (refine sg (h := O) ?_)
                                refine sg (h := sdFA) ?_
                                refine sg (h := (sdXA (z := 1))) ?_
                                refine sg (h := (by first | exact sdLG | exact sdW)) ?_
                                refine sg (h := O) ?_
                                refine st (h := O) ?_
                                refine nl ?_
                                refine cD (fun c8 => ?_) (fun c8 => ?_)
                                · refine dr 9 [35, 13, 3] [0, 1, 2002, 2003, 4, 2005, 2006, 2007, 8, 2010, 2011, 1009, 2012, 1013] ?_
                                  iterate 2 (refine dt (hv := by exact O) ?_)
                                  iterate 2 (refine dq (hv := by exact fun _ _ => O) ?_)
                                  refine dt (hv := by exact O) ?_
                                  iterate 2 (refine dq (hv := by exact fun _ _ => O) ?_)
                                  refine dq (hv := by exact fun _ _ => sdFA) ?_
                                  refine dt (hv := by exact (sdXA (z := 1))) ?_
                                  refine dq (hv := by exact fun _ _ => O) ?_
                                  refine dq (hv := by exact fun _ _ => sdFA) ?_
                                  first | refine dsoG ?_ | refine dso ?_
                                  refine dq (hv := by exact fun _ _ => (sdXA (z := 1))) ?_
                                  first | refine dsoG ?_ | refine dso ?_
                                  refine dn ?_
                                  refine bk ?_
                                  refine rg ?_
                                  refine st (h := sdA) ?_
                                  refine st (h := O) ?_
                                  refine nl ?_
                                  refine bk2 (c + 1) (_) (by exact ⟨rfl, trivial⟩) (by exact ⟨rfl, rfl, rfl, rfl, rfl, rfl, rfl, rfl, trivial⟩) (by exact ⟨rfl, rfl, rfl, rfl, rfl, rfl, trivial⟩) ?_ ?_
                                  · omega
                                  · refine ⟨by omega, ?_⟩
                                    have hu : updB l x (tabD l x k) a1 (a1 + m) (bRow l x (tabD l x k) a1 m) c = (((a1 + m : Nat) : Int), cstB l x (tabD l x k) a1 (a1 + m) c) := by unfold updB; rw [if_pos (.inr (hB ▸ c8))]
                                    refine hT2.upd hc (by omega) (by omega) ?_ (fun c' h1 h2 => ?_)
                                    · rw [if_pos (by omega), hu]
                                    · by_cases h : c' < c
                                      · rw [if_pos (by omega), if_pos h]
                                      · rw [if_neg (by omega), if_neg h]
                                · refine sk ?_
                                  refine bk ?_
                                  refine rg ?_
                                  refine st (h := sdA) ?_
                                  refine st (h := O) ?_
                                  refine nl ?_
                                  refine bk2 (c + 1) (_) (by exact ⟨rfl, trivial⟩) (by exact ⟨rfl, rfl, rfl, rfl, rfl, rfl, rfl, rfl, trivial⟩) (by exact ⟨rfl, rfl, rfl, rfl, rfl, rfl, trivial⟩) ?_ ?_
                                  · omega
                                  · refine ⟨by omega, ?_⟩
                                    have hu : updB l x (tabD l x k) a1 (a1 + m) (bRow l x (tabD l x k) a1 m) c = bRow l x (tabD l x k) a1 m c := by
                                      unfold updB
                                      rw [if_neg (by rintro (h | h); · exact g130 (hA.trans h)
                                                     · exact c8 (by rw [hB]; exact h))]
                                    refine hT2.cong fun c' h1 => ?_
                                    by_cases h2 : c' = c
                                    · subst h2; rw [if_pos (by omega), if_neg (by omega), hu]
                                    · by_cases h : c' < c
                                      · rw [if_pos (by omega), if_pos h]
                                      · rw [if_neg (by omega), if_neg h]
                            · have hcst : demD l x (judD l x a1 (a1 + m)).bad (judD l x a1 (a1 + m)).cls c ((a1 : Int) - 1) (a1 + m : Nat) = cstB l x (tabD l x k) a1 (a1 + m) c := by
                                unfold cstB; rw [if_neg (by omega), Int.add_zero]
                              refine sk ?_
                              refine sq ?_
                              rw [hcst]
                              have hA : T2 (0 + ((a1 : Int) - 1 + 1).toNat * 8 + 0 + (c : Int).toNat * 1) = (bRow l x (tabD l x k) a1 m c).1 := by
                                rw [hT2.at (i := a1) (c := c) (by omega) (by omega) (by omega)]
                                simp [setR]
                              have hB : T2 (0 + ((a1 : Int) - 1 + 1).toNat * 8 + 4 + (c : Int).toNat * 1) = (bRow l x (tabD l x k) a1 m c).2 := by
                                rw [hT2.at4 (i := a1) (c := c) (by omega) (by omega) (by omega)]
                                simp [setR]
                              refine rg ?_
                              iterate 3 (refine st (h := O) ?_)
                              refine st (h := sdFA) ?_
                              refine st (h := (sdXA (z := 1))) ?_
                              refine st (h := (by first | exact sdLG | exact sdW)) ?_
                              iterate 2 (refine st (h := O) ?_)
                              refine gD (fun g130 => ?_) (fun g130 => ?_)
                              · refine sp ?_
                                iterate 7 (refine sp ?_)
                                refine st (h := O) ?_
                                refine nl ?_
                                refine cT ?_
                                refine dr 9 [35, 13, 3] [0, 1, 2002, 2003, 4, 2005, 2006, 2007, 8, 2010, 2011, 1009, 2012, 1013] ?_
                                iterate 2 (refine dt (hv := by exact O) ?_)
                                iterate 2 (refine dq (hv := by exact fun _ _ => O) ?_)
                                refine dt (hv := by exact O) ?_
                                iterate 2 (refine dq (hv := by exact fun _ _ => O) ?_)
                                refine dq (hv := by exact fun _ _ => sdFA) ?_
                                refine dt (hv := by exact (sdXA (z := 1))) ?_
                                refine dq (hv := by exact fun _ _ => O) ?_
                                refine dq (hv := by exact fun _ _ => sdFA) ?_
                                first | refine dsoG ?_ | refine dso ?_
                                refine dq (hv := by exact fun _ _ => (sdXA (z := 1))) ?_
                                first | refine dsoG ?_ | refine dso ?_
                                refine dn ?_
                                refine bk ?_
                                refine rg ?_
                                refine st (h := sdA) ?_
                                refine st (h := O) ?_
                                refine nl ?_
                                refine bk2 (c + 1) (_) (by exact ⟨rfl, trivial⟩) (by exact ⟨rfl, rfl, rfl, rfl, rfl, rfl, rfl, rfl, trivial⟩) (by exact ⟨rfl, rfl, rfl, rfl, rfl, rfl, trivial⟩) ?_ ?_
                                · omega
                                · refine ⟨by omega, ?_⟩
                                  have hu : updB l x (tabD l x k) a1 (a1 + m) (bRow l x (tabD l x k) a1 m) c = (((a1 + m : Nat) : Int), cstB l x (tabD l x k) a1 (a1 + m) c) := by unfold updB; rw [if_pos (.inl (hA ▸ g130))]
                                  refine hT2.upd hc (by omega) (by omega) ?_ (fun c' h1 h2 => ?_)
                                  · rw [if_pos (by omega), hu]
                                  · by_cases h : c' < c
                                    · rw [if_pos (by omega), if_pos h]
                                    · rw [if_neg (by omega), if_neg h]
                              · refine sg (h := O) ?_
                                iterate 3 (refine sg (h := O) ?_)
                                refine sg (h := sdFA) ?_
                                refine sg (h := (sdXA (z := 1))) ?_
                                refine sg (h := (by first | exact sdLG | exact sdW)) ?_
                                refine sg (h := O) ?_
                                refine st (h := O) ?_
                                refine nl ?_
                                refine cD (fun c8 => ?_) (fun c8 => ?_)
                                · refine dr 9 [35, 13, 3] [0, 1, 2002, 2003, 4, 2005, 2006, 2007, 8, 2010, 2011, 1009, 2012, 1013] ?_
                                  iterate 2 (refine dt (hv := by exact O) ?_)
                                  iterate 2 (refine dq (hv := by exact fun _ _ => O) ?_)
                                  refine dt (hv := by exact O) ?_
                                  iterate 2 (refine dq (hv := by exact fun _ _ => O) ?_)
                                  refine dq (hv := by exact fun _ _ => sdFA) ?_
                                  refine dt (hv := by exact (sdXA (z := 1))) ?_
                                  refine dq (hv := by exact fun _ _ => O) ?_
                                  refine dq (hv := by exact fun _ _ => sdFA) ?_
                                  first | refine dsoG ?_ | refine dso ?_
                                  refine dq (hv := by exact fun _ _ => (sdXA (z := 1))) ?_
                                  first | refine dsoG ?_ | refine dso ?_
                                  refine dn ?_
                                  refine bk ?_
                                  refine rg ?_
                                  refine st (h := sdA) ?_
                                  refine st (h := O) ?_
                                  refine nl ?_
                                  refine bk2 (c + 1) (_) (by exact ⟨rfl, trivial⟩) (by exact ⟨rfl, rfl, rfl, rfl, rfl, rfl, rfl, rfl, trivial⟩) (by exact ⟨rfl, rfl, rfl, rfl, rfl, rfl, trivial⟩) ?_ ?_
                                  · omega
                                  · refine ⟨by omega, ?_⟩
                                    have hu : updB l x (tabD l x k) a1 (a1 + m) (bRow l x (tabD l x k) a1 m) c = (((a1 + m : Nat) : Int), cstB l x (tabD l x k) a1 (a1 + m) c) := by unfold updB; rw [if_pos (.inr (hB ▸ c8))]
                                    refine hT2.upd hc (by omega) (by omega) ?_ (fun c' h1 h2 => ?_)
                                    · rw [if_pos (by omega), hu]
                                    · by_cases h : c' < c
                                      · rw [if_pos (by omega), if_pos h]
                                      · rw [if_neg (by omega), if_neg h]
                                · refine sk ?_
                                  refine bk ?_
                                  refine rg ?_
                                  refine st (h := sdA) ?_
                                  refine st (h := O) ?_
                                  refine nl ?_
                                  refine bk2 (c + 1) (_) (by exact ⟨rfl, trivial⟩) (by exact ⟨rfl, rfl, rfl, rfl, rfl, rfl, rfl, rfl, trivial⟩) (by exact ⟨rfl, rfl, rfl, rfl, rfl, rfl, trivial⟩) ?_ ?_
                                  · omega
                                  · refine ⟨by omega, ?_⟩
                                    have hu : updB l x (tabD l x k) a1 (a1 + m) (bRow l x (tabD l x k) a1 m) c = bRow l x (tabD l x k) a1 m c := by
                                      unfold updB
                                      rw [if_neg (by rintro (h | h); · exact g130 (hA.trans h)
                                                     · exact c8 (by rw [hB]; exact h))]
                                    refine hT2.cong fun c' h1 => ?_
                                    by_cases h2 : c' = c
                                    · subst h2; rw [if_pos (by omega), if_neg (by omega), hu]
                                    · by_cases h : c' < c
                                      · rw [if_pos (by omega), if_pos h]
                                      · rw [if_neg (by omega), if_neg h]
                          · refine ex ?_
                            refine bk ?_
                            refine rg ?_
                            refine st (h := O) ?_
                            refine st (h := sdA) ?_
                            refine st (h := O) ?_
                            refine nl ?_
                            refine bk2 (_) (_) (by exact ⟨rfl, trivial⟩) (by exact ⟨rfl, rfl, rfl, rfl, rfl, rfl, trivial⟩) (by exact ⟨rfl, rfl, rfl, rfl, trivial⟩) ?_ ?_
                            · omega
                            · obtain rfl : c = 4 := by omega
                              refine ⟨by omega, by omega, ?_⟩
                              rw [show (((a1 + m : Nat) : Int) + 1 - a1).toNat = m + 1 from by omega, bRow, if_pos hok]
                              exact hT2.cong fun c' hc' => (by rw [if_pos hc'])
                · refine ex ?_
                  refine bk ?_
                  refine rg ?_
                  refine st (h := O) ?_
                  refine st (h := sdS) ?_
                  refine st (h := O) ?_
                  refine nl ?_
                  refine bk3 (_) (k + 1) (_) (by exact ⟨rfl, trivial⟩) (by exact ⟨rfl, rfl, rfl, rfl, trivial⟩) (by exact ⟨rfl, rfl, rfl, rfl, trivial⟩) ?_ ?_
                  · omega
                  · have hlt : a1 = 0 ∨ legalB l ((a1 : Int) - 1) = true := by first | exact .inr (of_not c2) | exact .inl (by omega)
                    refine ⟨by omega, by omega, ?_⟩
                    rw [hrow hlt]
                    obtain rfl : b = foA l a1 + 1 := by omega
                    rwa [show ((foA l a1 : Int) + 1 - a1).toNat = foA l a1 + 1 - a1 from by omega] at hT'
          · obtain rfl : a = -2 := by omega
            obtain rfl : k = l.length := by omega
            have hT01 : T (0 + (0 : Int).toNat * 8 + 0 + (1 : Int).toNat * 1) = (tabD l x l.length 0 1).1 := hTb.at (by omega) (by omega) (by omega)
            have hT04 : T (0 + (0 : Int).toNat * 8 + 4 + (1 : Int).toNat * 1) = (tabD l x l.length 0 1).2 := hTb.at4 (by omega) (by omega) (by omega)
            refine ex ?_
            refine sq ?_
            refine rg ?_
            refine cl (h := by exact fun ι hV hl => Class_C _ _ _ _) ?_
            rw [class0]
            refine st (h := O) ?_
            refine nl ?_
            iterate 2 (refine sq ?_)
            refine rg ?_
            iterate 2 (refine st (h := O) ?_)
            refine st (h := (sdX (z := 8))) ?_
            refine st (h := sdFA) ?_
            refine st (h := (sdXA (z := 1))) ?_
            refine st (h := (by first | exact sdLG | exact sdW)) ?_
            refine st (h := O) ?_
            refine nl ?_
            refine cD (fun c9 => ?_) (fun c9 => ?_)
            · refine sq ?_
              refine rg ?_
              iterate 3 (refine st (h := O) ?_)
              refine nl ?_
              have hb := hno (fun h => h.2.2 (hT01 ▸ c9))
              refine J.dropF ?_
              refine rt ⟨_, ?_, .inr ⟨0, 0, rfl⟩, fun G hG => ?_⟩
              · rw [hb]
              · rw [hb]; exact .inr ⟨rfl, rfl⟩
            · have hb := hye ⟨hgl, hgx, fun h => c9 (hT01.trans h)⟩
              refine sk ?_
              refine sq ?_
              refine rg ?_
              refine st (h := O) ?_
              refine nl ?_
              iterate 2 (refine sq ?_)
              refine rg ?_
              refine st (h := O) ?_
              refine nl ?_
              refine bl ?_
              refine J.loop5 (α := Option Nat) (β := Nat) (γ := List Value) (δ := Int) (ε := Int) (fun o m cs a cls => -1 ≤ a ∧ a < l.length ∧ apB o m ∧ (m : Int) ≤ a + 1 ∧ cs.length = m ∧ (0 ≤ cls ∧ cls ≤ 3) ∧ (a + 1 < l.length → (tabD l x l.length (a + 1).toNat cls.toNat).1 ≠ 0) ∧ ∃ xs d, cs = ivs xs ∧ l.length ≤ (a + 1).toNat + d ∧ pathB l x (tabD l x l.length) l.length 0 1 = xs ++ pathB l x (tabD l x l.length) d (a + 1).toNat cls) (fun o m cs a cls => [(16, .int .i64 cls), (17, apV 175 o m), (18, .int .i64 a)]) [(3, _), (7, _), (8, _), (9, _)] (fun o m cs a cls => apR 175 3 1 true o cs ++ []) [(35, _), (3, _)] (fun o m cs a cls => l.length - (a + 1).toNat) (none) (0) ([]) (-1) (1) (by exact ⟨rfl, rfl, rfl, trivial⟩) (by exact ⟨rfl, rfl, rfl, rfl, trivial⟩) (by exact (by repeat' first | exact trivial | refine And.intro rfl ?_)) ?_ ?_
              · exact ⟨by omega, by omega, rfl, by omega, rfl, by omega, fun _ h => c9 (hT01.trans h), [], l.length, rfl, by omega, rfl⟩
              · intro o m cs a cls L1 K1 e1 e2 hI
                rcases o with _ | cap_o
                all_goals
                  dsimp only [apV, apR, List.cons_append, List.nil_append] at e1 e2
                  subst e1 e2
                  obtain ⟨ha, hal, hap, hm, hcl, hcls, hnz, xs, d, rfl, hd, hpath⟩ := hI
                  simp only [apB] at hap
                  try (obtain rfl : m = 0 := hap; obtain rfl : xs = [] := List.eq_nil_of_length_eq_zero (by simpa [ivs] using hcl))
                  iterate 2 (refine sq ?_)
                  refine rg ?_
                  iterate 3 (refine st (h := O) ?_)
                  refine nl ?_
                  refine cD (fun c10 => ?_) (fun c10 => ?_)
                  · obtain ⟨a1, ha1⟩ := Int.eq_ofNat_of_zero_le (show (0 : Int) ≤ a + 1 by omega)
                    have ha1l : a1 < l.length := by omega
                    have e1 : (a + 1).toNat = a1 := by omega
                    rw [e1] at hnz
                    obtain ⟨b, hab, hbl, hb1, hb2, hb3, hb4⟩ := tab_next hgl ha1l (hnz (by omega))
                    have hTx : T (0 + (a + 1).toNat * 8 + 0 + cls.toNat * 1) = (b : Int) := by rw [← hb1]; exact hTb.at (by omega) (by omega) (by omega)
                    have hj := judD_cls l x a1 b
                    refine sk ?_
                    refine bl ?_
                    refine sq ?_
                    refine rg ?_
                    iterate 2 (refine st (h := O) ?_)
                    refine st (h := sdA) ?_
                    refine st (h := O) ?_
                    refine st (h := (sdX (z := 8))) ?_
                    refine st (h := sdFA) ?_
                    refine st (h := (sdXA (z := 1))) ?_
                    refine st (h := (by first | exact sdLG | exact sdW)) ?_
                    refine st (h := O) ?_
                    refine nl ?_
                    refine sq ?_
                    rw [hTx]
                    refine rg ?_
                    iterate 2 (refine st (h := O) ?_)
                    refine sl ?_
                    first | refine apN (news := [_]) 175 true [(3, _), (7, _), (8, _), (9, _), (18, _), (19, _)] [(35, _), (3, _)] ?_ | refine apO (news := [_]) 1175 175 [(3, _), (7, _), (8, _), (9, _), (18, _), (19, _)] [(35, _), (3, _)] ?_
                    intro cap175 hc175 hd175
                    refine st (h := O) ?_
                    refine nl ?_
                    refine rg ?_
                    iterate 4 (refine st (h := O) ?_)
                    refine st (h := sdLN) ?_
                    refine cl (h := by exact fun ι hV hl => hJ _ (hp.le hl) _ a1 b hgl hgx ha1 (by omega) (by omega)) ?_
                    iterate 3 (refine st (h := O) ?_)
                    refine nl ?_
                    refine bk ?_
                    refine bk5 (some _) (_) (_) (_) (_) (by exact ⟨rfl, rfl, rfl, trivial⟩) (by exact ⟨rfl, rfl, rfl, rfl, trivial⟩) (by exact (by repeat' first | exact trivial | refine And.intro rfl ?_)) ?_ ?_
                    · omega
                    · obtain ⟨d, rfl⟩ : ∃ e, d = e + 1 := ⟨d - 1, by omega⟩
                      rw [e1, pathB, if_pos ha1l, hb1, Int.toNat_natCast] at hpath
                      simp only [apB, List.length_append, List.length_cons, List.length_nil]
                      refine ⟨by omega, by omega, by omega, by omega, by first | trivial | omega, hj, fun h => ?_, _ ++ [_], d, by first | exact ivs_snoc _ _ | exact ivs_snoc [] _, by omega, ?_⟩
                      · rw [show ((b : Int) + 1).toNat = b + 1 from by omega]; exact hb4 (by omega)
                      · rw [hpath, List.append_assoc]; rfl
                  · obtain rfl : a = l.length - 1 := by omega
                    refine ex ?_
                    refine sq ?_
                    refine dr 10 [35, 3, 175] [0, 1, 3, 4, 1002, 5, 6, 7, 8, 9] ?_
                    iterate 2 (refine dt (hv := by exact O) ?_)
                    refine dt (hv := by exact (sdX (z := 8))) ?_
                    refine dt (hv := by exact sdFA) ?_
                    refine dcl (hkp := by first | exact Kept.all | exact Kept.k0 | exact Kept.kY) (h := by exact fun ι hV hl => Class_C _ _ _ _) ?_
                    rw [class0]
                    refine dt (hv := by exact (sdXA (z := 1))) ?_
                    refine dt (hv := by exact (by first | exact sdLG | exact sdW)) ?_
                    iterate 3 (refine dt (hv := by exact O) ?_)
                    refine dn ?_
                    refine J.dropF ?_
                    rw [hT04]
                    refine rtX fun ι hV => ?_
                    rw [show ((l.length : Int) - 1 + 1).toNat = l.length from by omega, pathB_end, List.append_nil] at hpath
                    rw [hb, hpath]
                    refine ⟨_, rfl, ?_, fun G hG => ?_⟩
                    · first | exact .inr ⟨0, 0, rfl⟩ | exact .inl ⟨_, _, _, _, rfl⟩
                    · first
                        | exact .inr ⟨rfl, rfl⟩
                        | (simp only [ivs_length] at hcl; subst hcl
                           exact hG.ivs (r := _) (ι := ι) (by repeat (first | exact List.mem_cons_self .. | apply List.mem_cons_of_mem)) rfl (by omega))
  ·
    refine C.go hT Try.func15 Try.ntmps15 ?_
    refine sq ?_
    refine rg ?_
    refine bx ?_
    iterate 3 (refine st (h := O) ?_)
    refine nl ?_
    refine sc ?_
    iterate 2 (refine sq ?_)
    refine rg ?_
    refine st (h := O) ?_
    refine cl (h := by exact fun ι hV hl => IGood_C _ _ [] (hv.le hl)) ?_
    iterate 2 (refine st (h := O) ?_)
    refine gB (fun g23 => ?_) (fun g23 => ?_)
    · refine sp ?_
      iterate 2 (refine sp ?_)
      refine st (h := O) ?_
      refine nl ?_
      refine cT ?_
      refine sq ?_
      refine rg ?_
      iterate 3 (refine st (h := O) ?_)
      refine nl ?_
      refine rt ⟨_, ?_, .inr ⟨0, 0, rfl⟩, fun G hG => ?_⟩
      · rw [hno (fun h => not_of g23 h.1)]
      · rw [hno (fun h => not_of g23 h.1)]; exact .inr ⟨rfl, rfl⟩
    · cases of_not g23

end Go.Proofs.Ytbeblgjibfoanaa.Am
namespace Go.Proofs.Ytbeblgjibfoanaa.Am
set_option linter.unusedSimpArgs false
set_option linter.unusedVariables false
set_option maxRecDepth 100000
set_option maxHeartbeats 4000000
open Go Go.RowKit
theorem legal_force {l : List Item} {i : Nat} (hi : i < l.length) (h : forceB (at_ l i) = true) : legalB l i = true := by
  simp only [forceB, decide_eq_true_eq] at h
  simp [legalB, hi, h]
/-- the least break behind a line's beginning, and the last one up to which all fits: of so many items -/
def scanF (l : List Item) (w : Int) (a1 : Nat) : Nat → Int × Int
  | 0 => (-1, -1)
  | m + 1 => if legalB l ((a1 + m : Nat) : Int) = true then (if (scanF l w a1 m).1 < 0 then ((a1 + m : Nat) : Int) else (scanF l w a1 m).1, if mW l a1 (a1 + m) - mZ l a1 (a1 + m) ≤ w then ((a1 + m : Nat) : Int) else (scanF l w a1 m).2)
    else scanF l w a1 m
def nextF (l : List Item) (w : Int) (a1 : Nat) : Int :=
  if (scanF l w a1 (foA l a1 + 1 - a1)).2 < 0 then (scanF l w a1 (foA l a1 + 1 - a1)).1 else (scanF l w a1 (foA l a1 + 1 - a1)).2
def pathF (l : List Item) (w : Int) : Nat → Nat → List Int
  | 0, _ => []
  | d + 1, a1 => if a1 < l.length then nextF l w a1 :: pathF l w d (nextF l w a1 + 1).toNat else []
def firstD (l : List Item) (x : Par) : List Int := if goodL l = true ∧ x.good = true then pathF l x.w l.length 0 else []
theorem scanF_bd (l : List Item) (w : Int) (a1 : Nat) : ∀ m, (-1 ≤ (scanF l w a1 m).1 ∧ (scanF l w a1 m).1 < a1 + m ∧ ((scanF l w a1 m).1 < 0 ∨ (a1 : Int) ≤ (scanF l w a1 m).1)) ∧ (-1 ≤ (scanF l w a1 m).2 ∧ (scanF l w a1 m).2 < a1 + m ∧ ((scanF l w a1 m).2 < 0 ∨ (a1 : Int) ≤ (scanF l w a1 m).2))
  | 0 => by simp [scanF]; omega
  | m + 1 => by
    have ih := scanF_bd l w a1 m
    simp only [scanF]
    split
    · dsimp only
      constructor <;> split <;> omega
    · omega
theorem scanF_legal (l : List Item) (w : Int) (a1 : Nat) : ∀ m k, k < m → legalB l ((a1 + k : Nat) : Int) = true → 0 ≤ (scanF l w a1 m).1
  | 0, k, h, _ => by omega
  | m + 1, k, h, hl => by
    simp only [scanF]
    by_cases hk : k = m
    · subst hk
      rw [if_pos hl]
      dsimp only
      split <;> omega
    · have ih := scanF_legal l w a1 m k (by omega) hl
      split
      · dsimp only
        split <;> omega
      · exact ih
theorem nextF_bd {l : List Item} (h : goodL l = true) (w : Int) {a1 : Nat} (ha : a1 < l.length) : (a1 : Int) ≤ nextF l w a1 ∧ nextF l w a1 < l.length := by
  obtain ⟨h1, h2, h3⟩ := foA_last h ha
  have h4 := scanF_legal l w a1 (foA l a1 + 1 - a1) (foA l a1 - a1) (by omega) (by rw [show a1 + (foA l a1 - a1) = foA l a1 from by omega]; exact legal_force h2 h3)
  have h5 := scanF_bd l w a1 (foA l a1 + 1 - a1)
  unfold nextF
  split <;> omega
theorem pathF_end (l : List Item) (w : Int) (d : Nat) : pathF l w d l.length = [] := by cases d <;> simp [pathF]
theorem First_C (F : Mem) (v : Value) (l : List Item) (x : Par) (hv : RItems F v l) : C Try.prog 18 [v, x.v] F (fun u Y => ∀ G, Rd G Y → RInts G u (firstD l x)) := by
  have hno : ¬ (goodL l = true ∧ x.good = true) → firstD l x = [] := fun h => by simp only [firstD, h, if_false]
  have hye : (goodL l = true ∧ x.good = true) → firstD l x = pathF l x.w l.length 0 := fun h => by simp only [firstD, h, and_self, if_true]
  obtain ⟨xw, tol, line, twice, odd⟩ := x
  dsimp only [Par.v]
  rcases hv.forms with ⟨vb, vo, vc, rfl⟩ | ⟨rfl, rfl⟩
  ·
    refine C.go hT Try.func18 Try.ntmps18 ?_
    refine sq ?_
    refine rg ?_
    refine bx ?_
    refine st (h := O) ?_
    refine nl ?_
    iterate 2 (refine sq ?_)
    refine rg ?_
    refine st (h := O) ?_
    refine cl (h := by exact fun ι hV hl => IGood_C _ _ l (hv.le hl)) ?_
    iterate 2 (refine st (h := O) ?_)
    refine gB (fun g15 => ?_) (fun g15 => ?_)
    · refine sp ?_
      iterate 2 (refine sp ?_)
      refine st (h := O) ?_
      refine nl ?_
      refine cT ?_
      refine sq ?_
      refine rg ?_
      refine st (h := O) ?_
      refine nl ?_
      refine rt (fun G hG => ?_)
      rw [hno (fun h => not_of g15 h.1)]
      exact .inr ⟨rfl, rfl⟩
    · refine sg (h := sdLN) ?_
      refine clg (h := by exact fun ι hV hl => Good_C _ ⟨xw, tol, line, twice, odd⟩) ?_
      refine sg (h := O) ?_
      refine st (h := O) ?_
      refine nl ?_
      refine cB (fun c0 => ?_) (fun c0 => ?_)
      · refine sq ?_
        refine rg ?_
        refine st (h := O) ?_
        refine nl ?_
        refine rt (fun G hG => ?_)
        rw [hno (fun h => not_of c0 h.2)]
        exact .inr ⟨rfl, rfl⟩
      · have hgl := of_not g15
        have hgx := of_not c0
        have hlen := good_len hgl
        rw [hye ⟨hgl, hgx⟩]
        have hgx2 := hgx
        simp only [Par.good, decide_eq_true_eq] at hgx2
        refine sk ?_
        refine sq ?_
        refine rg ?_
        refine st (h := O) ?_
        refine clC (h := by exact fun ι hV hl => ready_C _ (.slice (some ⟨vb, vo, none⟩) l.length vc) l (hv.le hl) hgl) ?_
        intro p Y hQ hpv hpp hN
        have hp := hQ _ (hv.le hN.le) hN.rows
        obtain ⟨pb, po, lb, lo, lc, wb, wo, wc, yb, yo, yc, zb, zo, zc, bb, bo, bc, fb, fo, fc, rfl, ⟨_, _, _, _, _, hf0⟩, _, hf8⟩ := id hp
        refine st (h := O) ?_
        refine nl ?_
        refine sq ?_
        refine rg ?_
        refine st (h := O) ?_
        refine nl ?_
        iterate 2 (refine sq ?_)
        refine rg ?_
        refine st (h := O) ?_
        refine nl ?_
        refine bl ?_
        refine J.loop4 (α := Option Nat) (β := Nat) (γ := List Value) (δ := Int) (fun o m cs a => -1 ≤ a ∧ a < l.length ∧ apB o m ∧ (m : Int) ≤ a + 1 ∧ cs.length = m ∧ ∃ xs d, cs = ivs xs ∧ l.length ≤ (a + 1).toNat + d ∧ pathF l xw l.length 0 = xs ++ pathF l xw d (a + 1).toNat) (fun o m cs a => [(6, apV 67 o m), (7, .int .i64 a)]) [(0, _), (3, _), (5, _)] (fun o m cs a => apR 67 3 1 true o cs ++ []) [(3, _)] (fun o m cs a => l.length - (a + 1).toNat) (none) (0) ([]) (-1) (by exact ⟨rfl, rfl, trivial⟩) (by exact ⟨rfl, rfl, rfl, trivial⟩) (by exact (by repeat' first | exact trivial | refine And.intro rfl ?_)) ?_ ?_
        · exact ⟨by omega, by omega, rfl, by omega, rfl, [], l.length, rfl, by omega, rfl⟩
        · intro o m cs a L1 K1 e1 e2 hI
          rcases o with _ | cap_o
          all_goals
            dsimp only [apV, apR, List.cons_append, List.nil_append] at e1 e2
            subst e1 e2
            obtain ⟨ha, hal, hap, hm, hcl, xs, d, rfl, hd, hpath⟩ := hI
            simp only [apB] at hap
            try (obtain rfl : m = 0 := hap; obtain rfl : xs = [] := List.eq_nil_of_length_eq_zero (by simpa [ivs] using hcl))
            iterate 2 (refine sq ?_)
            refine rg ?_
            iterate 3 (refine st (h := O) ?_)
            refine st (h := sdS) ?_
            refine st (h := O) ?_
            refine nl ?_
            refine cD (fun c1 => ?_) (fun c1 => ?_)
            · obtain ⟨a1, ha1⟩ := Int.eq_ofNat_of_zero_le (show (0 : Int) ≤ a + 1 by omega)
              have ha1l : a1 < l.length := by omega
              obtain ⟨_, _, _, _, hfo⟩ := hf8 a1 (by omega)
              have hfo' : look (F.add Y) ⟨fb, fo + (a + 1).toNat * 1, none⟩ = some (.int .i64 (foA l a1)) := by rw [ha1]; exact hfo
              obtain ⟨fl1, fl2, fl3⟩ := foA_last hgl ha1l
              have hnb := nextF_bd hgl xw ha1l
              refine sk ?_
              refine bl ?_
              refine sq ?_
              refine rg ?_
              iterate 2 (refine st (h := O) ?_)
              refine nl ?_
              iterate 2 (refine sq ?_)
              refine rg ?_
              refine st (h := O) ?_
              refine st (h := sdA) ?_
              refine st (h := O) ?_
              refine nl ?_
              refine bl ?_
              first | refine J.loop3 (α := Int) (β := Int) (γ := Int) (fun b least most => (a1 : Int) ≤ b ∧ b ≤ foA l a1 + 1 ∧ scanF l xw a1 (b - a1).toNat = (least, most)) (fun b least most => [(8, .int .i64 least), (9, .int .i64 most), (10, .int .i64 b)]) [(0, _), (3, _), (5, _), (6, _), (7, _)] (fun b least most => []) [(3, _), (67, _)] (fun b least most => (foA l a1 + 1 - b).toNat) (a + 1) (-1) (-1) (by exact ⟨rfl, rfl, rfl, trivial⟩) (by exact ⟨rfl, rfl, rfl, rfl, rfl, trivial⟩) (by exact ⟨rfl, rfl, rfl, rfl, trivial⟩) ?_ ?_ | refine J.loop3 (α := Int) (β := Int) (γ := Int) (fun b least most => (a1 : Int) ≤ b ∧ b ≤ foA l a1 + 1 ∧ scanF l xw a1 (b - a1).toNat = (least, most)) (fun b least most => [(8, .int .i64 least), (9, .int .i64 most), (10, .int .i64 b)]) [(0, _), (3, _), (5, _), (6, _), (7, _)] (fun b least most => []) [(3, _)] (fun b least most => (foA l a1 + 1 - b).toNat) (a + 1) (-1) (-1) (by exact ⟨rfl, rfl, rfl, trivial⟩) (by exact ⟨rfl, rfl, rfl, rfl, rfl, trivial⟩) (by exact ⟨rfl, rfl, trivial⟩) ?_ ?_
              · exact ⟨by omega, by omega, by rw [show (a + 1 - (a1 : Int)).toNat = 0 from by omega]; rfl⟩
              · intro b least most L1 K1 e1 e2 hI
                dsimp only [apV, apR, List.cons_append, List.nil_append] at e1 e2
                subst e1 e2
                obtain ⟨hb0, hb1, hsc⟩ := hI
                iterate 2 (refine sq ?_)
                refine rg ?_
                iterate 3 (refine st (h := O) ?_)
                refine st (h := sdFA) ?_
                refine st (h := sdL) ?_
                refine st (h := O) ?_
                refine st (h := sdA) ?_
                refine st (h := (sdX (z := 1))) ?_
                refine st (h := (by first | exact sdLG | exact sdW)) ?_
                refine st (h := O) ?_
                refine nl ?_
                refine cD (fun c2 => ?_) (fun c2 => ?_)
                · obtain ⟨b1, rfl⟩ := Int.eq_ofNat_of_zero_le (show (0 : Int) ≤ b by omega)
                  obtain ⟨k, rfl⟩ : ∃ k, b1 = a1 + k := ⟨b1 - a1, by omega⟩
                  rw [show ((a1 + k : Nat) : Int) - a1 = k from by omega, Int.toNat_natCast] at hsc
                  have hst : scanF l xw a1 (k + 1) = if legalB l ((a1 + k : Nat) : Int) = true then (if least < 0 then ((a1 + k : Nat) : Int) else least, if mW l a1 (a1 + k) - mZ l a1 (a1 + k) ≤ xw then ((a1 + k : Nat) : Int) else most) else (least, most) := by simp only [scanF, hsc]
                  have hmb := sums_bd hgl (a1 + k) (by omega)
                  refine sk ?_
                  refine sq ?_
                  refine bl ?_
                  iterate 2 (refine sq ?_)
                  refine rg ?_
                  iterate 2 (refine st (h := O) ?_)
                  refine cl (h := by exact fun ι hV hl => legal_C _ _ l _ (hp.le hl).head) ?_
                  refine st (h := O) ?_
                  refine nl ?_
                  refine cB (fun c3 => ?_) (fun c3 => ?_)
                  · refine ex ?_
                    refine rg ?_
                    refine st (h := O) ?_
                    refine st (h := sdA) ?_
                    refine st (h := O) ?_
                    refine nl ?_
                    refine bk3 (_) (_) (_) (by exact ⟨rfl, rfl, rfl, trivial⟩) (by exact ⟨rfl, rfl, rfl, rfl, rfl, trivial⟩) (by exact (by repeat' first | exact trivial | refine And.intro rfl ?_)) ?_ ?_
                    · omega
                    · refine ⟨by omega, by omega, ?_⟩
                      rw [show (((a1 + k : Nat) : Int) + 1 - a1).toNat = k + 1 from by omega, hst]
                      first
                        | rw [if_neg (not_of c3)]
                        | rw [if_pos (of_not c3)]; simp only [c4, c5, if_true, if_false]
                  · refine sk ?_
                    iterate 2 (refine sq ?_)
                    refine rg ?_
                    iterate 2 (refine st (h := O) ?_)
                    refine nl ?_
                    refine cD (fun c4 => ?_) (fun c4 => ?_)
                    · refine rg ?_
                      iterate 2 (refine st (h := O) ?_)
                      refine nl ?_
                      refine sq ?_
                      refine rg ?_
                      iterate 3 (refine st (h := O) ?_)
                      refine cl (h := by exact fun ι hV hl => measure_C _ _ l a a1 (a1 + k) (hp.le hl) hgl ha1 (by omega) (by omega)) ?_
                      have hfr : fromA l a1 (a1 + k) ≤ a1 + k := Nat.min_le_right _ _
                      have hmf := sums_bd hgl (fromA l a1 (a1 + k)) (by omega)
                      have hok := good_ok hgl (show a1 + k < l.length by omega)
                      simp only [Item.ok, decide_eq_true_eq] at hok
                      have hwb : -(1073741824 * 2000) ≤ mW l a1 (a1 + k) ∧ mW l a1 (a1 + k) ≤ 1073741824 * 2000 := by unfold mW; split <;> omega
                      have hzb : -(1073741824 * 2000) ≤ mZ l a1 (a1 + k) ∧ mZ l a1 (a1 + k) ≤ 1073741824 * 2000 := by unfold mZ; omega
                      refine al ?_
                      refine so ?_
                      refine nl ?_
                      refine sq ?_
                      refine rg ?_
                      refine st (h := sdFA) ?_
                      refine st (h := sdL) ?_
                      refine st (h := sdFA) ?_
                      refine st (h := sdL) ?_
                      refine st (h := sdS) ?_
                      refine st (h := sdFA) ?_
                      refine st (h := sdL) ?_
                      refine st (h := O) ?_
                      refine nl ?_
                      refine cD (fun c5 => ?_) (fun c5 => ?_)
                      · refine rg ?_
                        iterate 2 (refine st (h := O) ?_)
                        refine nl ?_
                        refine bk ?_
                        refine rg ?_
                        refine st (h := O) ?_
                        refine st (h := sdA) ?_
                        refine st (h := O) ?_
                        refine nl ?_
                        refine bk3 (_) (_) (_) (by exact ⟨rfl, rfl, rfl, trivial⟩) (by exact ⟨rfl, rfl, rfl, rfl, rfl, trivial⟩) (by exact (by repeat' first | exact trivial | refine And.intro rfl ?_)) ?_ ?_
                        · omega
                        · refine ⟨by omega, by omega, ?_⟩
                          rw [show (((a1 + k : Nat) : Int) + 1 - a1).toNat = k + 1 from by omega, hst]
                          first
                            | rw [if_neg (not_of c3)]
                            | rw [if_pos (of_not c3)]; simp only [c4, c5, if_true, if_false]
                      · refine sk ?_
                        refine bk ?_
                        refine rg ?_
                        refine st (h := O) ?_
                        refine st (h := sdA) ?_
                        refine st (h := O) ?_
                        refine nl ?_
                        refine bk3 (_) (_) (_) (by exact ⟨rfl, rfl, rfl, trivial⟩) (by exact ⟨rfl, rfl, rfl, rfl, rfl, trivial⟩) (by exact (by repeat' first | exact trivial | refine And.intro rfl ?_)) ?_ ?_
                        · omega
                        · refine ⟨by omega, by omega, ?_⟩
                          rw [show (((a1 + k : Nat) : Int) + 1 - a1).toNat = k + 1 from by omega, hst]
                          first
                            | rw [if_neg (not_of c3)]
                            | rw [if_pos (of_not c3)]; simp only [c4, c5, if_true, if_false]
                    · refine sk ?_
                      refine sq ?_
                      refine rg ?_
                      iterate 3 (refine st (h := O) ?_)
                      refine cl (h := by exact fun ι hV hl => measure_C _ _ l a a1 (a1 + k) (hp.le hl) hgl ha1 (by omega) (by omega)) ?_
                      have hfr : fromA l a1 (a1 + k) ≤ a1 + k := Nat.min_le_right _ _
                      have hmf := sums_bd hgl (fromA l a1 (a1 + k)) (by omega)
                      have hok := good_ok hgl (show a1 + k < l.length by omega)
                      simp only [Item.ok, decide_eq_true_eq] at hok
                      have hwb : -(1073741824 * 2000) ≤ mW l a1 (a1 + k) ∧ mW l a1 (a1 + k) ≤ 1073741824 * 2000 := by unfold mW; split <;> omega
                      have hzb : -(1073741824 * 2000) ≤ mZ l a1 (a1 + k) ∧ mZ l a1 (a1 + k) ≤ 1073741824 * 2000 := by unfold mZ; omega
                      refine al ?_
                      refine so ?_
                      refine nl ?_
                      refine sq ?_
                      refine rg ?_
                      refine st (h := sdFA) ?_
                      refine st (h := sdL) ?_
                      refine st (h := sdFA) ?_
                      refine st (h := sdL) ?_
                      refine st (h := sdS) ?_
                      refine st (h := sdFA) ?_
                      refine st (h := sdL) ?_
                      refine st (h := O) ?_
                      refine nl ?_
                      refine cD (fun c5 => ?_) (fun c5 => ?_)
                      · refine rg ?_
                        iterate 2 (refine st (h := O) ?_)
                        refine nl ?_
                        refine bk ?_
                        refine rg ?_
                        refine st (h := O) ?_
                        refine st (h := sdA) ?_
                        refine st (h := O) ?_
                        refine nl ?_
                        refine bk3 (_) (_) (_) (by exact ⟨rfl, rfl, rfl, trivial⟩) (by exact ⟨rfl, rfl, rfl, rfl, rfl, trivial⟩) (by exact (by repeat' first | exact trivial | refine And.intro rfl ?_)) ?_ ?_
                        · omega
                        · refine ⟨by omega, by omega, ?_⟩
                          rw [show (((a1 + k : Nat) : Int) + 1 - a1).toNat = k + 1 from by omega, hst]
                          first
                            | rw [if_neg (not_of c3)]
                            | rw [if_pos (of_not c3)]; simp only [c4, c5, if_true, if_false]
                      · refine sk ?_
                        refine bk ?_
                        refine rg ?_
                        refine st (h := O) ?_
                        refine st (h := sdA) ?_
                        refine st (h := O) ?_
                        refine nl ?_
                        refine bk3 (_) (_) (_) (by exact ⟨rfl, rfl, rfl, trivial⟩) (by exact ⟨rfl, rfl, rfl, rfl, rfl, trivial⟩) (by exact (by repeat' first | exact trivial | refine And.intro rfl ?_)) ?_ ?_
                        · omega
                        · refine ⟨by omega, by omega, ?_⟩
                          rw [show (((a1 + k : Nat) : Int) + 1 - a1).toNat = k + 1 from by omega, hst]
                          first
                            | rw [if_neg (not_of c3)]
                            | rw [if_pos (of_not c3)]; simp only [c4, c5, if_true, if_false]
                · obtain rfl : b = foA l a1 + 1 := by omega
                  have hnx : nextF l xw a1 = if most < 0 then least else most := by
                    unfold nextF
                    rw [show foA l a1 + 1 - a1 = ((foA l a1 : Int) + 1 - a1).toNat from by omega, hsc]
                  refine ex ?_
                  iterate 2 (refine sq ?_)
                  refine rg ?_
                  iterate 2 (refine st (h := O) ?_)
                  refine nl ?_
                  refine cD (fun c6 => ?_) (fun c6 => ?_)
                  · refine rg ?_
                    iterate 2 (refine st (h := O) ?_)
                    refine nl ?_
                    refine sq ?_
                    refine rg ?_
                    iterate 2 (refine st (h := O) ?_)
                    refine sl ?_
                    first | refine apN (news := [_]) 67 true [(0, _), (3, _), (5, _), (9, _)] [(3, _)] ?_ | refine apO (news := [_]) 1067 67 [(0, _), (3, _), (5, _), (9, _)] [(3, _)] ?_
                    intro cap67 hc67 hd67
                    refine st (h := O) ?_
                    refine nl ?_
                    refine rg ?_
                    iterate 2 (refine st (h := O) ?_)
                    refine nl ?_
                    refine bk ?_
                    refine bk4 (some _) (_) (_) (_) (by exact ⟨rfl, rfl, trivial⟩) (by exact ⟨rfl, rfl, rfl, trivial⟩) (by exact (by repeat' first | exact trivial | refine And.intro rfl ?_)) ?_ ?_
                    · omega
                    · have hnn : nextF l xw a1 = _ := hnx
                      simp only [c6, if_true, if_false] at hnn
                      obtain ⟨d, rfl⟩ : ∃ e, d = e + 1 := ⟨d - 1, by omega⟩
                      rw [ha1, Int.toNat_natCast, pathF, if_pos ha1l, hnn] at hpath
                      rw [hnn] at hnb
                      simp only [apB, List.length_append, List.length_cons, List.length_nil]
                      refine ⟨by omega, by omega, by omega, by omega, by first | trivial | omega, _ ++ [_], d, by first | exact ivs_snoc _ _ | exact ivs_snoc [] _, by omega, ?_⟩
                      rw [hpath, List.append_assoc]; rfl
                  · refine sk ?_
                    refine sq ?_
                    refine rg ?_
                    iterate 2 (refine st (h := O) ?_)
                    refine sl ?_
                    first | refine apN (news := [_]) 67 true [(0, _), (3, _), (5, _), (9, _)] [(3, _)] ?_ | refine apO (news := [_]) 1067 67 [(0, _), (3, _), (5, _), (9, _)] [(3, _)] ?_
                    intro cap67 hc67 hd67
                    refine st (h := O) ?_
                    refine nl ?_
                    refine rg ?_
                    iterate 2 (refine st (h := O) ?_)
                    refine nl ?_
                    refine bk ?_
                    refine bk4 (some _) (_) (_) (_) (by exact ⟨rfl, rfl, trivial⟩) (by exact ⟨rfl, rfl, rfl, trivial⟩) (by exact (by repeat' first | exact trivial | refine And.intro rfl ?_)) ?_ ?_
                    · omega
                    · have hnn : nextF l xw a1 = _ := hnx
                      simp only [c6, if_true, if_false] at hnn
                      obtain ⟨d, rfl⟩ : ∃ e, d = e + 1 := ⟨d - 1, by omega⟩
                      rw [ha1, Int.toNat_natCast, pathF, if_pos ha1l, hnn] at hpath
                      rw [hnn] at hnb
                      simp only [apB, List.length_append, List.length_cons, List.length_nil]
                      refine ⟨by omega, by omega, by omega, by omega, by first | trivial | omega, _ ++ [_], d, by first | exact ivs_snoc _ _ | exact ivs_snoc [] _, by omega, ?_⟩
                      rw [hpath, List.append_assoc]; rfl
            · obtain rfl : a = l.length - 1 := by omega
              refine ex ?_
              refine sq ?_
              refine rg ?_
              iterate 2 (refine st (h := O) ?_)
              refine nl ?_
              refine J.dropF ?_
              refine rtX fun ι hV G hG => ?_
              rw [show ((l.length : Int) - 1 + 1).toNat = l.length from by omega, pathF_end, List.append_nil] at hpath
              rw [hpath]
              first
                | exact .inr ⟨rfl, rfl⟩
                | (simp only [ivs_length] at hcl; subst hcl
                   exact hG.ivs (r := _) (ι := ι) (by repeat (first | exact List.mem_cons_self .. | apply List.mem_cons_of_mem)) rfl (by omega))
  ·
    refine C.go hT Try.func18 Try.ntmps18 ?_
    refine sq ?_
    refine rg ?_
    refine bx ?_
    refine st (h := O) ?_
    refine nl ?_
    iterate 2 (refine sq ?_)
    refine rg ?_
    refine st (h := O) ?_
    refine cl (h := by exact fun ι hV hl => IGood_C _ _ [] (hv.le hl)) ?_
    iterate 2 (refine st (h := O) ?_)
    refine gB (fun g15 => ?_) (fun g15 => ?_)
    · refine sp ?_
      iterate 2 (refine sp ?_)
      refine st (h := O) ?_
      refine nl ?_
      refine cT ?_
      refine sq ?_
      refine rg ?_
      refine st (h := O) ?_
      refine nl ?_
      refine rt (fun G hG => ?_)
      rw [hno (fun h => not_of g15 h.1)]
      exact .inr ⟨rfl, rfl⟩
    · cases of_not g15

end Go.Proofs.Ytbeblgjibfoanaa.Am
namespace Go.Proofs.Ytbeblgjibfoanaa.Am
set_option linter.unusedSimpArgs false
set_option linter.unusedVariables false
set_option maxRecDepth 100000
set_option maxHeartbeats 4000000
open Go Go.RowKit
def breakD (l : List Item) (x : Par) : (List Int × Int × Bool) × Int :=
  if goodL l = true then (if x.good = true then (if (bestD l x).2.2 = true then (bestD l x, 0) else ((firstD l x, 0, false), 0)) else (([], 0, false), 1)) else (([], 0, false), 220)
theorem SlV.plain {w : Value} (h : SlV w) : plain1 w = true := by
  rcases h with ⟨b, o, n, c, rfl⟩ | ⟨n, c, rfl⟩ <;> rfl
theorem Break_C (F : Mem) (v : Value) (l : List Item) (x : Par) (hv : RItems F v l) : C Try.prog 13 [v, x.v] F (fun u Y => ∃ w, u = .tuple #[.agg #[w, .int .i64 (breakD l x).1.2.1, .bool (breakD l x).1.2.2], .int .i64 (breakD l x).2] ∧ SlV w ∧ ∀ G, Rd G Y → RInts G w (breakD l x).1.1) := by
  have hn1 : ¬ goodL l = true → breakD l x = (([], 0, false), 220) := fun h => by rw [breakD, if_neg h]
  have hn2 : goodL l = true → ¬ x.good = true → breakD l x = (([], 0, false), 1) := fun h h2 => by rw [breakD, if_pos h, if_neg h2]
  have hy1 : goodL l = true → x.good = true → (bestD l x).2.2 = true → breakD l x = (bestD l x, 0) := fun h h2 h3 => by rw [breakD, if_pos h, if_pos h2, if_pos h3]
  have hy2 : goodL l = true → x.good = true → ¬ (bestD l x).2.2 = true → breakD l x = ((firstD l x, 0, false), 0) := fun h h2 h3 => by rw [breakD, if_pos h, if_pos h2, if_neg h3]
  have hBt : ∀ G, RItems G v l → _ := fun G h => Best_C G v l x h
  have hFt : ∀ G, RItems G v l → _ := fun G h => First_C G v l x h
  have hGd : ∀ G, _ := fun G => Good_C G x
  obtain ⟨xw, tol, line, twice, odd⟩ := x
  generalize hx : (⟨xw, tol, line, twice, odd⟩ : Par) = x at *
  have hxv : x.v = .agg #[.int .i64 xw, .int .i64 tol, .int .i64 line, .int .i64 twice, .int .i64 odd] := by rw [← hx]; rfl
  rw [hxv] at hBt hFt hGd ⊢
  rcases hv.forms with ⟨vb, vo, vc, rfl⟩ | ⟨rfl, rfl⟩
  ·
    refine C.go hT Try.func13 Try.ntmps13 ?_
    refine sq ?_
    refine rg ?_
    refine bx ?_
    refine al ?_
    refine st (h := O) ?_
    refine nl ?_
    refine sq ?_
    refine bl ?_
    refine sq ?_
    refine rg ?_
    refine st (h := O) ?_
    refine cl (h := by exact fun ι hV hl => IGood_C _ _ l (hv.le hl)) ?_
    iterate 2 (refine st (h := O) ?_)
    refine nl ?_
    refine cB (fun c0 => ?_) (fun c0 => ?_)
    · refine sq ?_
      refine rg ?_
      refine st (h := O) ?_
      refine so ?_
      refine st (h := O) ?_
      refine nl ?_
      refine rtX fun ι hV => ?_
      rw [hn1 (not_of c0)]
      exact ⟨_, rfl, .inr ⟨0, 0, rfl⟩, fun G hG => .inr ⟨rfl, rfl⟩⟩
    · refine sq ?_
      refine rg ?_
      refine st (h := sdLN) ?_
      refine cl (h := by exact fun ι hV hl => hGd _) ?_
      iterate 2 (refine st (h := O) ?_)
      refine nl ?_
      refine cB (fun c1 => ?_) (fun c1 => ?_)
      · refine sq ?_
        refine rg ?_
        refine st (h := O) ?_
        refine so ?_
        refine st (h := O) ?_
        refine nl ?_
        refine rtX fun ι hV => ?_
        rw [hn2 (of_not c0) (not_of c1)]
        exact ⟨_, rfl, .inr ⟨0, 0, rfl⟩, fun G hG => .inr ⟨rfl, rfl⟩⟩
      · refine sk ?_
        refine bk ?_
        iterate 2 (refine sq ?_)
        refine rg ?_
        refine st (h := O) ?_
        refine st (h := sdLN) ?_
        refine clC (h := by exact fun ι hV hl => hBt _ (hv.le hl)) ?_
        intro u1 Y1 hQ1 hpv1 hpp1 hN1
        obtain ⟨w1, rfl, hw1, hG1⟩ := hQ1
        rcases hw1 with ⟨wb, wo, wn, wc, rfl⟩ | ⟨wn, wc, rfl⟩
        all_goals
          iterate 7 (refine st (h := O) ?_)
          refine nl ?_
          refine sq ?_
          refine rg ?_
          refine st (h := O) ?_
          refine nl ?_
          refine cB (fun c2 => ?_) (fun c2 => ?_)
          · refine sq ?_
            refine rg ?_
            iterate 3 (refine st (h := O) ?_)
            refine so ?_
            refine st (h := O) ?_
            refine nl ?_
            refine rtY hpp1 fun ι hV => ?_
            rw [hy1 (of_not c0) (of_not c1) c2]
            exact ⟨_, by rw [c2]; rfl, by first | exact .inl ⟨_, _, _, _, rfl⟩ | exact .inr ⟨_, _, rfl⟩, fun G hG => hG1 G hG.app_right⟩
          · refine sk ?_
            refine sq ?_
            refine rg ?_
            refine st (h := O) ?_
            refine st (h := sdLN) ?_
            refine clC (h := by exact fun ι hV hl => hFt _ ((hv.le hN1.le).le hl)) ?_
            intro u2 Y2 hQ2 hpv2 hpp2 hN2
            have hw2 := (hQ2 _ hN2.rows).sl
            rw [add_add]
            rcases hw2 with ⟨xb, xo, xn, xc, rfl⟩ | ⟨xn, xc, rfl⟩
            all_goals
              refine st (h := O) ?_
              refine so ?_
              refine st (h := O) ?_
              refine nl ?_
              refine rtY (PlainRows.app hpp1 hpp2) fun ι hV => ?_
              rw [hy2 (of_not c0) (of_not c1) (by rw [c2]; decide)]
              exact ⟨_, rfl, by first | exact .inl ⟨_, _, _, _, rfl⟩ | exact .inr ⟨_, _, rfl⟩, fun G hG => hQ2 G hG.app_right.app_left⟩
  ·
    refine C.go hT Try.func13 Try.ntmps13 ?_
    refine sq ?_
    refine rg ?_
    refine bx ?_
    refine al ?_
    refine st (h := O) ?_
    refine nl ?_
    refine sq ?_
    refine bl ?_
    refine sq ?_
    refine rg ?_
    refine st (h := O) ?_
    refine cl (h := by exact fun ι hV hl => IGood_C _ _ [] (hv.le hl)) ?_
    iterate 2 (refine st (h := O) ?_)
    refine nl ?_
    refine cB (fun c0 => ?_) (fun c0 => ?_)
    · refine sq ?_
      refine rg ?_
      refine st (h := O) ?_
      refine so ?_
      refine st (h := O) ?_
      refine nl ?_
      refine rtX fun ι hV => ?_
      rw [hn1 (not_of c0)]
      exact ⟨_, rfl, .inr ⟨0, 0, rfl⟩, fun G hG => .inr ⟨rfl, rfl⟩⟩
    · cases of_not c0
theorem five_break : breakD fiveL ⟨25, 100, 10, 0, 0⟩ = (([3, 7, 11], 300, true), 0) := by decide +kernel
theorem five_first : firstD fiveL ⟨4, 0, 0, 0, 0⟩ = [1, 3, 5, 7, 11] := by decide +kernel
/-- one of the call's own rows of numbers, as its callee sees it -/
theorem Val.ints {ι : Nat → Nat} {K : Own} {F : Mem} (h : Val ι K F) {t n c : Nat} {r : Row} {xs : List Int} (hr : K.lookup t = some r) (hcs : r.cs = ivs xs) (hn : n = xs.length) (hl : xs.length ≤ 9223372036854775807) : RInts (push ι K F) (.slice (some ⟨ι t, 0, none⟩) n c) xs := by
  subst hn
  refine .inl ⟨ι t, 0, c, rfl, hl, fun i x hx => ?_⟩
  rw [Nat.zero_add]
  have := h.look hr (o := i) (v := .int .i64 x) (by rw [hcs]; exact ivs_get hx)
  exact this
theorem wakes_C (F : Mem) : C0 Try.prog 11 [] F (.bool true) := by
  have hB : ∀ G v, RItems G v fiveL → _ := fun G v h => Break_C G v fiveL ⟨25, 100, 10, 0, 0⟩ h
  rw [five_break] at hB
  have hF : ∀ G v, RItems G v fiveL → _ := fun G v h => First_C G v fiveL ⟨4, 0, 0, 0, 0⟩ h
  rw [five_first] at hF
  refine C.go hT Try.func11 Try.ntmps11 ?_
  refine sq ?_
  refine rg ?_
  refine st (h := O) ?_
  refine nl ?_
  refine sq ?_
  refine rg ?_
  refine clC (h := by exact fun ι hV hl => Five_C _) ?_
  intro u1 Y1 hQ1 hpv1 hpp1 hN1
  obtain ⟨hw1, hI1⟩ := hQ1
  have hI1' := hI1 _ hN1.rows
  rcases hI1'.forms with ⟨vb, vo, vc, rfl⟩ | ⟨-, hnil⟩
  rotate_left
  · exact absurd hnil (by decide)
  refine st (h := O) ?_
  refine clC (h := by exact fun ι hV hl => hB _ _ (hI1'.le hl)) ?_
  intro u2 Y2 hQ2 hpv2 hpp2 hN2
  obtain ⟨w2, rfl, hw2, hG2⟩ := hQ2
  have hG2' := hG2 _ hN2.rows
  rcases hG2' with ⟨wb, wo, wc, rfl, hw3⟩ | ⟨-, hnil⟩
  rotate_left
  · exact absurd hnil (by decide)
  have hG2' := hG2 _ hN2.rows
  iterate 3 (refine st (h := O) ?_)
  refine al ?_
  refine so ?_
  refine st (h := O) ?_
  refine nl ?_
  refine sq ?_
  refine rg ?_
  iterate 3 (refine st (h := O) ?_)
  refine gD (fun g11 => ?_) (fun g11 => ?_)
  · refine sg (h := sdFA) ?_
    refine sg (h := sdL) ?_
    iterate 2 (refine st (h := O) ?_)
    refine gB (fun g15 => ?_) (fun g15 => ?_)
    · refine sg (h := sdFA) ?_
      refine sg (h := sdL) ?_
      refine sg (h := O) ?_
      iterate 2 (refine st (h := O) ?_)
      refine gD (fun g20 => ?_) (fun g20 => ?_)
      · refine sg (h := sdFA) ?_
        refine sg (h := sdL) ?_
        refine slg ?_
        refine clg (h := by exact fun ι hV hl => Same_C _ _ _ [3, 7, 11] [3, 7, 11] (hG2'.le hl) (hV.ints (t := 23) rfl rfl rfl (by decide))) ?_
        iterate 2 (refine st (h := O) ?_)
        refine gB (fun g26 => ?_) (fun g26 => ?_)
        · refine clgC (h := by exact fun ι hV hl => Five_C _) ?_
          intro u3 Y3 hQ3 hpv3 hpp3 hN3
          obtain ⟨hw3', hI3⟩ := hQ3
          have hI3' := hI3 _ hN3.rows
          rcases hI3'.forms with ⟨vb3, vo3, vc3, rfl⟩ | ⟨-, hnil⟩
          rotate_left
          · exact absurd hnil (by decide)
          refine sg (h := O) ?_
          refine clgC (h := by exact fun ι hV hl => hF _ _ (hI3'.le hl)) ?_
          intro u4 Y4 hQ4 hpv4 hpp4 hN4
          have hG4 := hQ4 _ hN4.rows
          rcases hG4 with ⟨xb, xo, xc, rfl, hx3⟩ | ⟨-, hnil⟩
          rotate_left
          · exact absurd hnil (by decide)
          have hG4 := hQ4 _ hN4.rows
          refine slg ?_
          refine clg (h := by exact fun ι hV hl => Same_C _ _ _ [1, 3, 5, 7, 11] [1, 3, 5, 7, 11] (hG4.le hl) (hV.ints (t := 30) rfl rfl rfl (by decide))) ?_
          iterate 2 (refine st (h := O) ?_)
          refine nl ?_
          rw [add_add, add_add, add_add]
          refine J.dropF ?_
          refine rt ⟨?_, rfl⟩
          first | rfl | decide | simp
        · exact absurd g26 (by decide)
      · exact absurd rfl g20
    · cases g15
  · exact absurd rfl g11

end Go.Proofs.Ytbeblgjibfoanaa.Am
