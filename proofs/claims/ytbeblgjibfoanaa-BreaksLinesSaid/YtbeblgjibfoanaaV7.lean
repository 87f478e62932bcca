/- Contracts: short copies, an example -/
import Derived.Test.YtbeblgjibfoanaaV6
import Derived.Test.YtbeblgjibfoanaaU9
namespace Go.Proofs.Ytbeblgjibfoanaa.Am
set_option linter.unusedSimpArgs false
set_option linter.unusedVariables false
set_option maxRecDepth 100000
set_option maxHeartbeats 4000000
open Go Go.RowKit
theorem large_C (F : Mem) (v : Value) (l : List Item) (hv : RItems F v l) : C0 Try.prog 10 [v] F (.bool (decide ((120 < l.length ∧ l.length ≤ 1024) ∨ 3000 < l.length))) := by
  rcases hv.forms with ⟨b, off, c, rfl⟩ | ⟨rfl, rfl⟩
  all_goals
    refine C.go hT Try.func10 Try.ntmps10 ?_
    refine sq ?_
    refine rg ?_
    refine st (h := O) ?_
    refine nl ?_
    refine sq ?_
    refine rg ?_
    iterate 4 (refine st (h := O) ?_)
    refine gD (fun g6 => ?_) (fun g6 => ?_)
    · refine sg (h := O) ?_
      iterate 2 (refine sg (h := O) ?_)
      iterate 2 (refine st (h := O) ?_)
      refine gD (fun g11 => ?_) (fun g11 => ?_)
      · refine sp ?_
        iterate 2 (refine sp ?_)
        iterate 2 (refine st (h := O) ?_)
        refine nl ?_
        refine rt ⟨?_, rfl⟩
        simp only [Value.bool.injEq, eq_comm (a := true), eq_comm (a := false), decide_eq_true_eq, decide_eq_false_iff_not, decide_eq_decide, List.length_nil]
        omega
      · refine sg (h := O) ?_
        iterate 2 (refine sg (h := O) ?_)
        iterate 2 (refine st (h := O) ?_)
        refine nl ?_
        refine rt ⟨?_, rfl⟩
        simp only [Value.bool.injEq, eq_comm (a := true), eq_comm (a := false), decide_eq_true_eq, decide_eq_false_iff_not, decide_eq_decide, List.length_nil]
        omega
    · refine sp ?_
      iterate 2 (refine sp ?_)
      iterate 2 (refine st (h := O) ?_)
      iterate 3 (refine sg (h := O) ?_)
      iterate 2 (refine st (h := O) ?_)
      refine nl ?_
      refine rt ⟨?_, rfl⟩
      simp only [Value.bool.injEq, eq_comm (a := true), eq_comm (a := false), decide_eq_true_eq, decide_eq_false_iff_not, decide_eq_decide, List.length_nil]
      omega
theorem Ints_C (F : Mem) (v : Value) (xs : List Int) (hv : RInts F v xs) (hcap : ∀ a n c, v = .slice (some a) n c → n ≤ c) : C Try.prog 29 [v, .int .i64 2000] F (fun u Y => SlV u ∧ ∀ G, Rd G Y → RInts G u (xs.take 2000)) := by
  rcases hv with ⟨vb, vo, vc, rfl, h63, hr⟩ | ⟨rfl, rfl⟩
  · have hone : ∀ ys : List Int, ∀ v ∈ ivs ys, v.oneCell' = true := fun ys v hv => by obtain ⟨y, _, rfl⟩ := List.mem_map.1 hv; rfl
    have hpla : ∀ ys : List Int, (ivs ys).all plain1 = true := fun ys => List.all_eq_true.2 fun v hv => by obtain ⟨y, _, rfl⟩ := List.mem_map.1 hv; rfl
    have hntt : ∀ (ys : List Int) t, (ivs ys).all (nt1 t) = true := fun ys t => List.all_eq_true.2 fun v hv => by obtain ⟨y, _, rfl⟩ := List.mem_map.1 hv; rfl
    have hap : ∀ K, rdN F K ⟨vb, vo, none⟩ ((xs.take 2000).length * 1) = some (ivs (xs.take 2000)) := fun K => by
      rw [Nat.mul_one]
      exact lookN_ints (fun i y hy => by
        rw [List.getElem?_take] at hy
        split at hy
        · exact hr i y hy
        · simp at hy)
    have hlt : (xs.take 2000).length = min 2000 xs.length := List.length_take
    have hl := hcap _ _ _ rfl
    refine C.go hT Try.func29 Try.ntmps29 ?_
    refine sq ?_
    refine rg ?_
    refine st (h := O) ?_
    refine nl ?_
    iterate 2 (refine sq ?_)
    refine rg ?_
    iterate 4 (refine st (h := O) ?_)
    refine nl ?_
    refine cD (fun c0 => ?_) (fun c0 => ?_)
    · refine rg ?_
      iterate 2 (refine st (h := O) ?_)
      refine st (h := sdCutH) ?_
      refine st (h := O) ?_
      refine nl ?_
      refine sq ?_
      try rw [show (2000 : Int).toNat = (xs.take 2000).length from by omega]
      refine rg ?_
      refine sl ?_
      refine st (h := O) ?_
      first
        | (refine ap0 ?_)
        | (refine apO (m := (xs.take 2000).length) (news := ivs (xs.take 2000)) 1012 12 [] [] ?_ (happ := App.slice (hap _) (hone _) (by simp [ivs])) (hnn := hntt _ _) (hru := by simp only [Bool.or_eq_true]; exact .inr (hntt _ _)) (hflat := fun h => by cases h); intro cap19 hc19 hd19)
      refine st (h := O) ?_
      refine nl ?_
      refine rtX fun ι hV => ⟨.inl ⟨_, _, _, _, rfl⟩, fun G hG => ?_⟩
      first
        | exact .inl ⟨_, _, _, rfl, by simp, fun i y h => by simp at h⟩
        | exact Rd.ivsW (c := cap19) hG List.mem_cons_self (by show (ivs _).map (r1 ι) = _; exact ivs_r _ _) (by omega) (by omega)
    · rcases Nat.eq_zero_or_pos xs.length with hz | hz
      · have hz0 : xs = [] := List.eq_nil_of_length_eq_zero hz
        subst hz0
        refine sk ?_
        refine sq ?_
        try rw [show (2000 : Int).toNat = (xs.take 2000).length from by omega]
        refine rg ?_
        refine sl ?_
        refine st (h := O) ?_
        first
          | (refine ap0 ?_)
          | (refine apO (m := (xs.take 2000).length) (news := ivs (xs.take 2000)) 1012 12 [] [] ?_ (happ := App.slice (hap _) (hone _) (by simp [ivs])) (hnn := hntt _ _) (hru := by simp only [Bool.or_eq_true]; exact .inr (hntt _ _)) (hflat := fun h => by cases h); intro cap19 hc19 hd19)
        refine st (h := O) ?_
        refine nl ?_
        refine rtX fun ι hV => ⟨.inl ⟨_, _, _, _, rfl⟩, fun G hG => ?_⟩
        first
          | exact .inl ⟨_, _, _, rfl, by simp, fun i y h => by simp at h⟩
          | exact Rd.ivsW (c := cap19) hG List.mem_cons_self (by show (ivs _).map (r1 ι) = _; exact ivs_r _ _) (by omega) (by omega)
      · rw [show xs.length = (xs.take 2000).length from by omega]
        refine sk ?_
        refine sq ?_
        try rw [show (2000 : Int).toNat = (xs.take 2000).length from by omega]
        refine rg ?_
        refine sl ?_
        refine st (h := O) ?_
        first
          | (refine ap0 ?_)
          | (refine apO (m := (xs.take 2000).length) (news := ivs (xs.take 2000)) 1012 12 [] [] ?_ (happ := App.slice (hap _) (hone _) (by simp [ivs])) (hnn := hntt _ _) (hru := by simp only [Bool.or_eq_true]; exact .inr (hntt _ _)) (hflat := fun h => by cases h); intro cap19 hc19 hd19)
        refine st (h := O) ?_
        refine nl ?_
        refine rtX fun ι hV => ⟨.inl ⟨_, _, _, _, rfl⟩, fun G hG => ?_⟩
        first
          | exact .inl ⟨_, _, _, rfl, by simp, fun i y h => by simp at h⟩
          | exact Rd.ivsW (c := cap19) hG List.mem_cons_self (by show (ivs _).map (r1 ι) = _; exact ivs_r _ _) (by omega) (by omega)
  ·
    refine C.go hT Try.func29 Try.ntmps29 ?_
    refine sq ?_
    refine rg ?_
    refine st (h := O) ?_
    refine nl ?_
    iterate 2 (refine sq ?_)
    refine rg ?_
    iterate 4 (refine st (h := O) ?_)
    refine nl ?_
    refine cD (fun c0 => ?_) (fun c0 => ?_)
    · exact absurd c0 (by decide)
    · refine sk ?_
      refine sq ?_
      refine rg ?_
      refine sl ?_
      refine st (h := O) ?_
      refine ap0 ?_
      refine st (h := O) ?_
      refine nl ?_
      refine rtX fun ι hV => ⟨.inl ⟨_, _, _, _, rfl⟩, fun G hG => ?_⟩
      exact .inl ⟨_, _, _, rfl, by simp, fun i y h => by simp at h⟩
def gluI : Item := ⟨2, 5, 3, 2, 0, false, 0, 0, 0, 0, []⟩
def boxI : Item := ⟨1, 10, 0, 0, 0, false, 0, 0, 0, 0, []⟩
def fivePre : Nat → List Item
  | 0 => []
  | i + 1 => fivePre i ++ (if 0 < i then [gluI, boxI] else [boxI])
def fiveL : List Item := fivePre 5 ++ [⟨3, 0, 0, 0, 10000, false, 0, 0, 0, 0, []⟩, ⟨2, 0, 1073741824, 0, 0, false, 0, 0, 0, 0, []⟩, ⟨3, 0, 0, 0, -10000, false, 0, 0, 0, 0, []⟩]
def cellsI (l : List Item) : List Value := (l.map fun x => x.cells (.slice none 0 0)).flatten
theorem fivePre_len : ∀ i, (fivePre i).length ≤ 2 * i
  | 0 => Nat.le_refl _
  | i + 1 => by
    have := fivePre_len i
    simp only [fivePre, List.length_append]
    split <;> simp <;> omega
theorem cellsI_app (l m : List Item) : cellsI (l ++ m) = cellsI l ++ cellsI m := by simp [cellsI]
theorem cellsI_len (l : List Item) : (cellsI l).length = l.length * 11 := by
  induction l with
  | nil => rfl
  | cons x l ih =>
    simp only [cellsI, List.map_cons, List.flatten_cons, List.length_append, Item.cells_len, List.length_cons] at ih ⊢
    omega
theorem cellsI_c (l : List Item) (ι : Nat → Nat) : (cellsI l).map (r1 ι) = cellsI l := by
  conv => rhs; rw [← List.map_id (cellsI l)]
  refine List.map_congr_left fun u hu => r1_plain ι ?_
  obtain ⟨y, hy, hu⟩ := List.mem_flatten.1 hu
  obtain ⟨x, _, rfl⟩ := List.mem_map.1 hy
  exact Item.cells_plain x rfl u hu
/-- items without glyphs, where they lie -/
theorem RItems.ofCells {G : Mem} {b c n : Nat} {l : List Item} (hg : ∀ x ∈ l, x.glyphs = []) (hn : n = l.length) (h : ∀ (o : Nat) (u : Value), (cellsI l)[o]? = some u → look G ⟨b, o, none⟩ = some u) (hb : l.length ≤ 9223372036854775807) : RItems G (.slice (some ⟨b, 0, none⟩) n c) l := by
  subst hn
  refine .inl ⟨b, 0, c, rfl, hb, fun i x hx => ⟨.slice none 0 0, ?_, .inl (.inr ⟨rfl, hg x (List.mem_of_getElem? hx)⟩)⟩⟩
  have := lookN_of (F := G) (a := ⟨b, 0 + i * 11, none⟩) (cs := x.cells (.slice none 0 0)) (fun j v hv => by
    have hj : j < 11 := by have := (List.getElem?_eq_some_iff.1 hv).1; rwa [Item.cells_len] at this
    refine h (0 + i * 11 + j) v ?_
    unfold cellsI
    rw [Nat.zero_add, flat_at (fun y hy => by
      obtain ⟨k, _, rfl⟩ := List.mem_map.1 hy
      exact Item.cells_len _ _) hj, List.getElem?_map, hx]
    exact hv)
  rwa [Item.cells_len] at this
theorem Five_C (F : Mem) : C Try.prog 32 [] F (fun u Y => SlV u ∧ ∀ G, Rd G Y → RItems G u fiveL) := by
  refine C.go hT Try.func32 Try.ntmps32 ?_
  refine sq ?_
  refine rg ?_
  refine st (h := O) ?_
  refine nl ?_
  refine sq ?_
  refine rg ?_
  refine st (h := O) ?_
  refine nl ?_
  iterate 2 (refine sq ?_)
  refine rg ?_
  refine st (h := O) ?_
  refine nl ?_
  refine bl ?_
  refine J.loop4 (α := Option Nat) (β := Nat) (γ := Nat) (δ := List Value) (fun o m i cs => i ≤ 5 ∧ m = (fivePre i).length ∧ apB o m ∧ cs = cellsI (fivePre i) ∧ (i = 0 ↔ o = none)) (fun o m i cs => [(1, apV 16 o m), (2, .int .i64 i)]) [] (fun o m i cs => apR 16 49 11 true o cs ++ []) [] (fun o m i cs => 5 - i) (none) (0) (0) ([]) (by exact ⟨rfl, rfl, trivial⟩) (by exact trivial) (by exact (by repeat' first | exact trivial | refine And.intro rfl ?_)) ?_ ?_
  · exact ⟨by omega, rfl, rfl, rfl, by simp⟩
  · intro o m i cs L1 K1 e1 e2 hI
    rcases o with _ | cap_o
    all_goals
      dsimp only [apV, apR, List.cons_append, List.nil_append] at e1 e2
      subst e1 e2
      obtain ⟨hi5, hm, hap, hcs, hio⟩ := hI
      simp only [apB] at hap
      simp only [reduceCtorEq, iff_false, iff_true] at hio
      have hcl : cs.length = m * 11 := by rw [hcs, hm, cellsI_len]
      have hml : m ≤ 2 * i := hm ▸ fivePre_len i
      iterate 2 (refine sq ?_)
      refine rg ?_
      iterate 2 (refine st (h := O) ?_)
      refine nl ?_
      refine cD (fun c0 => ?_) (fun c0 => ?_)
      · have hi4 : i < 5 := by omega
        refine sk ?_
        refine sq ?_
        refine bl ?_
        iterate 2 (refine sq ?_)
        refine rg ?_
        iterate 2 (refine st (h := O) ?_)
        refine nl ?_
        refine cD (fun c1 => ?_) (fun c1 => ?_)
        · refine rg ?_
          iterate 2 (refine st (h := O) ?_)
          refine sl ?_
          first | refine apN (news := [_, _, _, _, _, _, _, _, _, _, _]) 16 true [(2, _)] [] ?_ | refine apO (news := [_, _, _, _, _, _, _, _, _, _, _]) 1016 16 [(2, _)] [] ?_
          intro cap12 hc12 hd12
          refine st (h := O) ?_
          refine nl ?_
          refine rg ?_
          iterate 2 (refine st (h := O) ?_)
          refine sl ?_
          first | refine apO (news := [_, _, _, _, _, _, _, _, _, _, _]) 1016 16 [(2, _)] [] ?_
          intro cap16 hc16 hd16
          refine st (h := O) ?_
          refine nl ?_
          refine bk ?_
          refine rg ?_
          refine st (h := O) ?_
          refine st (h := sdA) ?_
          refine st (h := O) ?_
          refine nl ?_
          refine bk4 (some _) (_) (i + 1) (_) (by exact ⟨rfl, rfl, trivial⟩) (by exact trivial) (by exact (by repeat' first | exact trivial | refine And.intro rfl ?_)) ?_ ?_
          · omega
          · have hst : fivePre (i + 1) = fivePre i ++ (if 0 < i then [gluI, boxI] else [boxI]) := rfl
            first
              | (exfalso; omega)
              | (rw [if_pos (by omega)] at hst
                 exact ⟨by omega, by rw [hst, List.length_append, ← hm]; rfl, ⟨by omega, by omega⟩, by rw [hst, cellsI_app, ← hcs, List.append_assoc]; rfl, by simp⟩)
              | (subst hio
                 exact ⟨by omega, rfl, ⟨by omega, by omega⟩, rfl, by simp⟩)
        · refine sk ?_
          refine rg ?_
          iterate 2 (refine st (h := O) ?_)
          refine sl ?_
          first | refine apN (news := [_, _, _, _, _, _, _, _, _, _, _]) 16 true [(2, _)] [] ?_ | refine apO (news := [_, _, _, _, _, _, _, _, _, _, _]) 1016 16 [(2, _)] [] ?_
          intro cap16 hc16 hd16
          refine st (h := O) ?_
          refine nl ?_
          refine bk ?_
          refine rg ?_
          refine st (h := O) ?_
          refine st (h := sdA) ?_
          refine st (h := O) ?_
          refine nl ?_
          refine bk4 (some _) (_) (i + 1) (_) (by exact ⟨rfl, rfl, trivial⟩) (by exact trivial) (by exact (by repeat' first | exact trivial | refine And.intro rfl ?_)) ?_ ?_
          · omega
          · have hst : fivePre (i + 1) = fivePre i ++ (if 0 < i then [gluI, boxI] else [boxI]) := rfl
            first
              | (exfalso; omega)
              | (rw [if_pos (by omega)] at hst
                 exact ⟨by omega, by rw [hst, List.length_append, ← hm]; rfl, ⟨by omega, by omega⟩, by rw [hst, cellsI_app, ← hcs, List.append_assoc]; rfl, by simp⟩)
              | (subst hio
                 exact ⟨by omega, rfl, ⟨by omega, by omega⟩, rfl, by simp⟩)
      · obtain rfl : i = 5 := by omega
        refine ex ?_
        refine sq ?_
        refine rg ?_
        iterate 4 (refine st (h := O) ?_)
        refine sl ?_
        first | refine apN (news := [_, _, _, _, _, _, _, _, _, _, _, _, _, _, _, _, _, _, _, _, _, _, _, _, _, _, _, _, _, _, _, _, _]) 16 true [] [] ?_ | refine apO (news := [_, _, _, _, _, _, _, _, _, _, _, _, _, _, _, _, _, _, _, _, _, _, _, _, _, _, _, _, _, _, _, _, _]) 1016 16 [] [] ?_
        intro cap22 hc22 hd22
        refine st (h := O) ?_
        refine nl ?_
        first
          | (exfalso; omega)
          | (refine rtX fun ι hV => ⟨.inl ⟨_, _, _, _, rfl⟩, fun G hG => ?_⟩
             refine RItems.ofCells (by decide) (by rw [hm]; rfl) (fun o u hu => hG (ι 16, Row.r ι _) List.mem_cons_self o u ?_) (by decide)
             show (List.map (r1 ι) (cs ++ _))[o]? = _
             rw [hcs]
             show (List.map (r1 ι) (cellsI (fivePre 5) ++ cellsI [⟨3, 0, 0, 0, 10000, false, 0, 0, 0, 0, []⟩, ⟨2, 0, 1073741824, 0, 0, false, 0, 0, 0, 0, []⟩, ⟨3, 0, 0, 0, -10000, false, 0, 0, 0, 0, []⟩]))[o]? = _
             rw [← cellsI_app, cellsI_c]
             exact hu)

end Go.Proofs.Ytbeblgjibfoanaa.Am
