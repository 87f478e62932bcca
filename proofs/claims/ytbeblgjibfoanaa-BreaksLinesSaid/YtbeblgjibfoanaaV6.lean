/- Contracts: copies -/
import Derived.Test.YtbeblgjibfoanaaU2
import Derived.Test.YtbeblgjibfoanaaB3
namespace Go.Proofs.Ytbeblgjibfoanaa.Am
set_option linter.unusedSimpArgs false
set_option linter.unusedVariables false
set_option maxRecDepth 100000
set_option maxHeartbeats 4000000
open Go Go.RowKit
theorem Item.cells_len (x : Item) (g : Value) : (x.cells g).length = 11 := rfl
theorem Item.cells_plain (x : Item) {g : Value} (h : plain1 g = true) : ∀ u ∈ x.cells g, plain1 u = true := by
  intro u hu
  simp only [Item.cells, List.mem_cons, List.not_mem_nil, or_false] at hu
  rcases hu with rfl | rfl | rfl | rfl | rfl | rfl | rfl | rfl | rfl | rfl | rfl <;> first | rfl | exact h
/-- rows that hold copies of some items -/
def CpR (l : List Item) (Y : List (Nat × Row)) (gs : List Value) : Prop := ∀ i g, gs[i]? = some g → plain1 g = true ∧ ∀ G, Rd G Y → RInts G g (at_ l i).glyphs
def cellsG (l : List Item) (gs : List Value) : List (List Value) := (List.range gs.length).map fun i => (at_ l i).cells (gs.getD i .nilFunc)
theorem cellsG_snoc (l : List Item) (gs : List Value) (g : Value) : (cellsG l (gs ++ [g])).flatten = (cellsG l gs).flatten ++ (at_ l gs.length).cells g := by
  unfold cellsG
  rw [List.length_append, List.length_singleton, List.range_succ, List.map_append, List.flatten_append]
  congr 1
  · congr 1
    apply List.map_congr_left
    intro i hi
    have : i < gs.length := List.mem_range.1 hi
    simp [List.getD_eq_getElem?_getD, List.getElem?_append_left this]
  · simp [List.getD_eq_getElem?_getD]
theorem CpR.snoc {l : List Item} {Y Z : List (Nat × Row)} {gs : List Value} {g : Value} (h : CpR l Y gs) (hp : plain1 g = true) (hg : ∀ G, Rd G (Z ++ Y) → RInts G g (at_ l gs.length).glyphs) : CpR l (Z ++ Y) (gs ++ [g]) := by
  intro i u hu
  by_cases hi : i < gs.length
  · rw [List.getElem?_append_left hi] at hu
    obtain ⟨h1, h2⟩ := h i u hu
    exact ⟨h1, fun G hG => h2 G hG.app_right⟩
  · have hl := (List.getElem?_eq_some_iff.1 hu).1
    simp at hl
    obtain rfl : i = gs.length := by omega
    simp at hu
    subst hu
    exact ⟨hp, hg⟩
theorem CpR.step {l : List Item} {Y Z : List (Nat × Row)} {gs cs news : List Value} {k : Nat} {x : Item} {g : Value} (hgs : gs.length = k) (hcs : cs = (cellsG l gs).flatten) (hcp : CpR l Y gs) (hk : k < l.length) (hx : at_ l k = x) (hn : news = x.cells g) (hp : plain1 g = true) (hg : ∀ G, Rd G (Z ++ Y) → RInts G g x.glyphs) :
    ∃ gs', gs'.length = k + 1 ∧ cs ++ news = (cellsG l gs').flatten ∧ CpR l (Z ++ Y) gs' := by
  subst hgs hcs hn hx
  exact ⟨gs ++ [g], by simp, (cellsG_snoc l gs g).symm, hcp.snoc hp hg⟩
theorem Rd.ivsW {G : Mem} {Y : List (Nat × Row)} (h : Rd G Y) {b n c : Nat} {r : Row} {xs : List Int} (hm : (b, r) ∈ Y) (hcs : r.cs = Am.ivs xs) (hn : n = xs.length) (hl : xs.length ≤ 9223372036854775807) : RInts G (.slice (some ⟨b, 0, none⟩) n c) xs := by
  subst hn
  refine .inl ⟨b, 0, c, rfl, hl, fun i x hx => ?_⟩
  rw [Nat.zero_add]
  refine h _ hm i _ ?_
  rw [hcs]
  exact ivs_get hx
theorem cellsG_row {l : List Item} {gs : List Value} {i : Nat} {g : Value} (h : gs[i]? = some g) : (cellsG l gs)[i]? = some ((at_ l i).cells g) := by
  have hi := (List.getElem?_eq_some_iff.1 h).1
  unfold cellsG
  simp only [List.getElem?_map, List.getElem?_range hi, Option.map_some, List.getD_eq_getElem?_getD, h, Option.getD_some]
theorem cs_c {l : List Item} {Y : List (Nat × Row)} {gs cs : List Value} (h : CpR l Y gs) (hcs : cs = (cellsG l gs).flatten) (ι : Nat → Nat) : cs.map (r1 ι) = cs := by
  conv => rhs; rw [← List.map_id cs]
  refine List.map_congr_left fun u hu => r1_plain ι ?_
  rw [hcs] at hu
  obtain ⟨y, hy, hu⟩ := List.mem_flatten.1 hu
  obtain ⟨i, hi, rfl⟩ := List.mem_map.1 hy
  have hil := List.mem_range.1 hi
  refine Item.cells_plain _ (h i _ ?_).1 u hu
  simp [List.getD_eq_getElem?_getD, List.getElem?_eq_getElem hil]
theorem Copied {G : Mem} {Y : List (Nat × Row)} {l : List Item} {gs : List Value} {b c : Nat} {r : Row} (h : CpR l Y gs) (hl : gs.length = l.length) (hcs : r.cs = (cellsG l gs).flatten) (hG : Rd G ((b, r) :: Y)) (hb : l.length ≤ 9223372036854775807) : RItems G (.slice (some ⟨b, 0, none⟩) l.length c) l := by
  refine .inl ⟨b, 0, c, rfl, hb, fun i x hx => ?_⟩
  have hi := (List.getElem?_eq_some_iff.1 hx).1
  obtain ⟨g, hg⟩ : ∃ g, gs[i]? = some g := ⟨_, List.getElem?_eq_getElem (by omega)⟩
  have hxe : at_ l i = x := by simp [at_, List.getD_eq_getElem?_getD, hx]
  obtain ⟨h1, h2⟩ := h i g hg
  rw [hxe] at h2
  refine ⟨g, ?_, .inl (h2 G (Rd.app_right (Z := [(b, r)]) hG))⟩
  have := lookN_of (F := G) (a := ⟨b, 0 + i * 11, none⟩) (cs := x.cells g) (fun j v hv => by
    have hj : j < 11 := by have := (List.getElem?_eq_some_iff.1 hv).1; rwa [Item.cells_len] at this
    refine hG (b, r) List.mem_cons_self (0 + i * 11 + j) v ?_
    rw [hcs, Nat.zero_add, flat_at (fun y hy => by
      obtain ⟨k, _, rfl⟩ := List.mem_map.1 hy
      exact Item.cells_len _ _) hj, cellsG_row hg, hxe]
    exact hv)
  rwa [Item.cells_len] at this
theorem Copy_C (F : Mem) (v : Value) (l : List Item) (hv : RItems F v l) (hl3 : l.length ≤ 3000) (hgl : ∀ x ∈ l, x.glyphs.length * 8 ≤ 140737488355328) : C Try.prog 12 [v] F (fun u Y => SlV u ∧ ∀ G, Rd G Y → RItems G u l) := by
  rcases hv.cases with ⟨vb, vo, vc, rfl, _, hr⟩ | ⟨rfl, rfl⟩
  ·
    refine C.go hT Try.func12 Try.ntmps12 ?_
    refine sq ?_
    refine rg ?_
    refine st (h := O) ?_
    refine nl ?_
    refine sq ?_
    refine rg ?_
    refine st (h := O) ?_
    refine nl ?_
    iterate 2 (refine sq ?_)
    refine rg ?_
    refine st (h := O) ?_
    refine nl ?_
    refine bl ?_
    refine J.gloop4 (α := Option Nat) (β := Nat) (γ := Nat) (δ := List Value) (fun Y o m k cs => k ≤ l.length ∧ m = k ∧ apB o m ∧ cs.length = m * 11 ∧ ∃ gs, gs.length = k ∧ cs = (cellsG l gs).flatten ∧ CpR l Y gs) (fun o m k cs => [(3, apV 24 o m), (4, .int .i64 k)]) [(0, _)] (fun o m k cs => apR 24 49 11 true o cs ++ []) [] (fun o m k cs => l.length - k) (none) (0) (0) ([]) (by exact ⟨rfl, rfl, trivial⟩) (by exact ⟨rfl, trivial⟩) (by exact (by repeat' first | exact trivial | refine And.intro rfl ?_)) ?_ ?_
    · exact ⟨by omega, rfl, rfl, rfl, [], rfl, rfl, fun i g h => by simp at h⟩
    · intro Y o m k cs L1 K1 e1 e2 hI hY hN
      rcases o with _ | cap_o
      all_goals
        dsimp only [apV, apR, List.cons_append, List.nil_append] at e1 e2
        subst e1 e2
        obtain ⟨hk, hmk, hap, hcl, gs, hgs, hcs, hcp⟩ := hI
        simp only [apB] at hap
        try (obtain rfl : m = 0 := hap; obtain rfl : cs = [] := List.eq_nil_of_length_eq_zero (by omega))
        iterate 2 (refine sq ?_)
        refine rg ?_
        iterate 4 (refine st (h := O) ?_)
        refine nl ?_
        refine cD (fun c0 => ?_) (fun c0 => ?_)
        · have hkl : k < l.length := by omega
          obtain ⟨r0, r1, r2, r3, r4, r5, g, hg2, hri⟩ := hr k hkl
          have hN2 : ∀ K, rdN (F.add Y) K ⟨vb, vo + (k : Int).toNat * 11, none⟩ 11 = some ((at_ l k).cells g) := fun K => by
            obtain ⟨_, hh⟩ := lookN_spec hg2
            exact lookN_of (F := F.add Y) (cs := (at_ l k).cells g) (fun j u hu => hN.le _ _ (hh j u hu))
          have hgb := hgl _ (List.mem_of_getElem? (at_get hkl))
          generalize hx : at_ l k = x at *
          rcases hri with (⟨gb, go, gc, rfl, hg63, hgr⟩ | ⟨rfl, hge⟩) | ⟨gb, go, gsp, rfl, hge⟩
          rcases Nat.eq_zero_or_pos x.glyphs.length with hz | hz
          · have hz0 : x.glyphs = [] := List.eq_nil_of_length_eq_zero hz
            rw [hz] at hg2 hN2
            refine sk ?_
            refine sq ?_
            refine bl ?_
            refine sq ?_
            refine rg ?_
            iterate 2 (refine st (h := O) ?_)
            refine st (h := (sdX (z := 11))) ?_
            refine st (h := sdLN (hv := hN2 _)) ?_
            refine al ?_
            refine so ?_
            refine nl ?_
            refine sq ?_
            refine rg ?_
            refine sl ?_
            refine st (h := sdFA) ?_
            refine st (h := sdL) ?_
            first
              | (refine ap0 ?_)
              | (refine apO (m := x.glyphs.length) (news := ivs x.glyphs) 1019 16 [(0, _), (3, _), (4, _), (5, _)] [(5, _), (24, _)] ?_ (happ := App.slice (hap2 _) hone (by simp [ivs])) (hnn := hntt _) (hru := by simp only [List.nil_append, Bool.or_eq_true]; exact .inr (hntt _)) (hflat := fun h => by cases h); intro cap19 hc19 hd19)
              | (refine apO (m := x.glyphs.length) (news := ivs x.glyphs) 1019 16 [(0, _), (3, _), (4, _), (5, _)] [(5, _)] ?_ (happ := App.slice (hap2 _) hone (by simp [ivs])) (hnn := hntt _) (hru := by simp only [List.nil_append, Bool.or_eq_true]; exact .inr (hntt _)) (hflat := fun h => by cases h); intro cap19 hc19 hd19)
            first
              | refine JL.release (d := 19) (t := 16) [(0, _), (3, _), (4, _), (5, _)] [(5, _), (24, _)] ?_ (hfl := by first | rfl | exact hpla)
              | refine JL.release (d := 19) (t := 16) [(0, _), (3, _), (4, _), (5, _)] [(5, _)] ?_ (hfl := by first | rfl | exact hpla)
            intro g2 hpl hNw
            refine st (h := sdFA) ?_
            refine so ?_
            refine nl ?_
            refine rg ?_
            refine st (h := O) ?_
            refine st (h := sdLN) ?_
            refine sl ?_
            first | refine apN (news := [_, _, _, _, _, _, _, _, _, _, _]) 24 true [(0, _), (4, _)] [(5, _)] ?_ | refine apO (news := [_, _, _, _, _, _, _, _, _, _, _]) 1024 24 [(0, _), (4, _)] [(5, _)] ?_
            intro cap24 hc24 hd24
            refine st (h := O) ?_
            refine nl ?_
            refine bk ?_
            refine rg ?_
            refine st (h := O) ?_
            refine st (h := sdA) ?_
            refine st (h := O) ?_
            refine nl ?_
            refine gbk4 (_) (some _) (_) (k + 1) (_) (by exact ⟨rfl, rfl, trivial⟩) (by exact ⟨rfl, trivial⟩) (by exact (by repeat' first | exact trivial | refine And.intro rfl ?_)) (by exact add_add _ _ _) ?_ ?_ ?_
            · exact hY.app hpl
            · omega
            · refine ⟨by omega, by omega, ⟨by omega, by omega⟩, by first | (simp only [List.length_append, hcl, List.length_cons, List.length_nil]; omega) | rfl, CpR.step hgs hcs hcp hkl hx rfl rfl fun G hG => ?_⟩
              first
                | (rw [hz0]; exact .inl ⟨g2, 0, _, rfl, by simp, fun i y h => by simp at h⟩)
                | (rw [hge]; exact .inl ⟨g2, 0, _, rfl, by simp, fun i y h => by simp at h⟩)
                | exact Rd.ivsW hG List.mem_cons_self rfl (by omega) hg63
          · have hap2 : ∀ K, rdN (F.add Y) K ⟨gb, go, none⟩ (x.glyphs.length * 1) = some (ivs x.glyphs) := fun K => by
              rw [Nat.mul_one]
              exact lookN_ints (fun i y hy => hN.le _ _ (hgr i y hy))
            have hone : ∀ v ∈ ivs x.glyphs, v.oneCell' = true := fun v hv => by obtain ⟨y, _, rfl⟩ := List.mem_map.1 hv; rfl
            have hpla : (ivs x.glyphs).all plain1 = true := List.all_eq_true.2 fun v hv => by obtain ⟨y, _, rfl⟩ := List.mem_map.1 hv; rfl
            have hntt : ∀ t, (ivs x.glyphs).all (nt1 t) = true := fun t => List.all_eq_true.2 fun v hv => by obtain ⟨y, _, rfl⟩ := List.mem_map.1 hv; rfl
            refine sk ?_
            refine sq ?_
            refine bl ?_
            refine sq ?_
            refine rg ?_
            iterate 2 (refine st (h := O) ?_)
            refine st (h := (sdX (z := 11))) ?_
            refine st (h := sdLN (hv := hN2 _)) ?_
            refine al ?_
            refine so ?_
            refine nl ?_
            refine sq ?_
            refine rg ?_
            refine sl ?_
            refine st (h := sdFA) ?_
            refine st (h := sdL) ?_
            first
              | (refine ap0 ?_)
              | (refine apO (m := x.glyphs.length) (news := ivs x.glyphs) 1019 16 [(0, _), (3, _), (4, _), (5, _)] [(5, _), (24, _)] ?_ (happ := App.slice (hap2 _) hone (by simp [ivs])) (hnn := hntt _) (hru := by simp only [List.nil_append, Bool.or_eq_true]; exact .inr (hntt _)) (hflat := fun h => by cases h); intro cap19 hc19 hd19)
              | (refine apO (m := x.glyphs.length) (news := ivs x.glyphs) 1019 16 [(0, _), (3, _), (4, _), (5, _)] [(5, _)] ?_ (happ := App.slice (hap2 _) hone (by simp [ivs])) (hnn := hntt _) (hru := by simp only [List.nil_append, Bool.or_eq_true]; exact .inr (hntt _)) (hflat := fun h => by cases h); intro cap19 hc19 hd19)
            first
              | refine JL.release (d := 19) (t := 16) [(0, _), (3, _), (4, _), (5, _)] [(5, _), (24, _)] ?_ (hfl := by first | rfl | exact hpla)
              | refine JL.release (d := 19) (t := 16) [(0, _), (3, _), (4, _), (5, _)] [(5, _)] ?_ (hfl := by first | rfl | exact hpla)
            intro g2 hpl hNw
            refine st (h := sdFA) ?_
            refine so ?_
            refine nl ?_
            refine rg ?_
            refine st (h := O) ?_
            refine st (h := sdLN) ?_
            refine sl ?_
            first | refine apN (news := [_, _, _, _, _, _, _, _, _, _, _]) 24 true [(0, _), (4, _)] [(5, _)] ?_ | refine apO (news := [_, _, _, _, _, _, _, _, _, _, _]) 1024 24 [(0, _), (4, _)] [(5, _)] ?_
            intro cap24 hc24 hd24
            refine st (h := O) ?_
            refine nl ?_
            refine bk ?_
            refine rg ?_
            refine st (h := O) ?_
            refine st (h := sdA) ?_
            refine st (h := O) ?_
            refine nl ?_
            refine gbk4 (_) (some _) (_) (k + 1) (_) (by exact ⟨rfl, rfl, trivial⟩) (by exact ⟨rfl, trivial⟩) (by exact (by repeat' first | exact trivial | refine And.intro rfl ?_)) (by exact add_add _ _ _) ?_ ?_ ?_
            · exact hY.app hpl
            · omega
            · refine ⟨by omega, by omega, ⟨by omega, by omega⟩, by first | (simp only [List.length_append, hcl, List.length_cons, List.length_nil]; omega) | rfl, CpR.step hgs hcs hcp hkl hx rfl rfl fun G hG => ?_⟩
              first
                | (rw [hz0]; exact .inl ⟨g2, 0, _, rfl, by simp, fun i y h => by simp at h⟩)
                | (rw [hge]; exact .inl ⟨g2, 0, _, rfl, by simp, fun i y h => by simp at h⟩)
                | exact Rd.ivsW hG List.mem_cons_self rfl (by omega) hg63
          ·
            refine sk ?_
            refine sq ?_
            refine bl ?_
            refine sq ?_
            refine rg ?_
            iterate 2 (refine st (h := O) ?_)
            refine st (h := (sdX (z := 11))) ?_
            refine st (h := sdLN (hv := hN2 _)) ?_
            refine al ?_
            refine so ?_
            refine nl ?_
            refine sq ?_
            refine rg ?_
            refine sl ?_
            refine st (h := sdFA) ?_
            refine st (h := sdL) ?_
            first
              | (refine ap0 ?_)
              | (refine apO (m := x.glyphs.length) (news := ivs x.glyphs) 1019 16 [(0, _), (3, _), (4, _), (5, _)] [(5, _), (24, _)] ?_ (happ := App.slice (hap2 _) hone (by simp [ivs])) (hnn := hntt _) (hru := by simp only [List.nil_append, Bool.or_eq_true]; exact .inr (hntt _)) (hflat := fun h => by cases h); intro cap19 hc19 hd19)
              | (refine apO (m := x.glyphs.length) (news := ivs x.glyphs) 1019 16 [(0, _), (3, _), (4, _), (5, _)] [(5, _)] ?_ (happ := App.slice (hap2 _) hone (by simp [ivs])) (hnn := hntt _) (hru := by simp only [List.nil_append, Bool.or_eq_true]; exact .inr (hntt _)) (hflat := fun h => by cases h); intro cap19 hc19 hd19)
            first
              | refine JL.release (d := 19) (t := 16) [(0, _), (3, _), (4, _), (5, _)] [(5, _), (24, _)] ?_ (hfl := by first | rfl | exact hpla)
              | refine JL.release (d := 19) (t := 16) [(0, _), (3, _), (4, _), (5, _)] [(5, _)] ?_ (hfl := by first | rfl | exact hpla)
            intro g2 hpl hNw
            refine st (h := sdFA) ?_
            refine so ?_
            refine nl ?_
            refine rg ?_
            refine st (h := O) ?_
            refine st (h := sdLN) ?_
            refine sl ?_
            first | refine apN (news := [_, _, _, _, _, _, _, _, _, _, _]) 24 true [(0, _), (4, _)] [(5, _)] ?_ | refine apO (news := [_, _, _, _, _, _, _, _, _, _, _]) 1024 24 [(0, _), (4, _)] [(5, _)] ?_
            intro cap24 hc24 hd24
            refine st (h := O) ?_
            refine nl ?_
            refine bk ?_
            refine rg ?_
            refine st (h := O) ?_
            refine st (h := sdA) ?_
            refine st (h := O) ?_
            refine nl ?_
            refine gbk4 (_) (some _) (_) (k + 1) (_) (by exact ⟨rfl, rfl, trivial⟩) (by exact ⟨rfl, trivial⟩) (by exact (by repeat' first | exact trivial | refine And.intro rfl ?_)) (by exact add_add _ _ _) ?_ ?_ ?_
            · exact hY.app hpl
            · omega
            · refine ⟨by omega, by omega, ⟨by omega, by omega⟩, by first | (simp only [List.length_append, hcl, List.length_cons, List.length_nil]; omega) | rfl, CpR.step hgs hcs hcp hkl hx rfl rfl fun G hG => ?_⟩
              first
                | (rw [hz0]; exact .inl ⟨g2, 0, _, rfl, by simp, fun i y h => by simp at h⟩)
                | (rw [hge]; exact .inl ⟨g2, 0, _, rfl, by simp, fun i y h => by simp at h⟩)
                | exact Rd.ivsW hG List.mem_cons_self rfl (by omega) hg63
          ·
            refine sk ?_
            refine sq ?_
            refine bl ?_
            refine sq ?_
            refine rg ?_
            iterate 2 (refine st (h := O) ?_)
            refine st (h := (sdX (z := 11))) ?_
            refine st (h := sdLN (hv := hN2 _)) ?_
            refine al ?_
            refine so ?_
            refine nl ?_
            refine sq ?_
            refine rg ?_
            refine sl ?_
            refine st (h := sdFA) ?_
            refine st (h := sdL) ?_
            first
              | (refine ap0 ?_)
              | (refine apO (m := x.glyphs.length) (news := ivs x.glyphs) 1019 16 [(0, _), (3, _), (4, _), (5, _)] [(5, _), (24, _)] ?_ (happ := App.slice (hap2 _) hone (by simp [ivs])) (hnn := hntt _) (hru := by simp only [List.nil_append, Bool.or_eq_true]; exact .inr (hntt _)) (hflat := fun h => by cases h); intro cap19 hc19 hd19)
              | (refine apO (m := x.glyphs.length) (news := ivs x.glyphs) 1019 16 [(0, _), (3, _), (4, _), (5, _)] [(5, _)] ?_ (happ := App.slice (hap2 _) hone (by simp [ivs])) (hnn := hntt _) (hru := by simp only [List.nil_append, Bool.or_eq_true]; exact .inr (hntt _)) (hflat := fun h => by cases h); intro cap19 hc19 hd19)
            first
              | refine JL.release (d := 19) (t := 16) [(0, _), (3, _), (4, _), (5, _)] [(5, _), (24, _)] ?_ (hfl := by first | rfl | exact hpla)
              | refine JL.release (d := 19) (t := 16) [(0, _), (3, _), (4, _), (5, _)] [(5, _)] ?_ (hfl := by first | rfl | exact hpla)
            intro g2 hpl hNw
            refine st (h := sdFA) ?_
            refine so ?_
            refine nl ?_
            refine rg ?_
            refine st (h := O) ?_
            refine st (h := sdLN) ?_
            refine sl ?_
            first | refine apN (news := [_, _, _, _, _, _, _, _, _, _, _]) 24 true [(0, _), (4, _)] [(5, _)] ?_ | refine apO (news := [_, _, _, _, _, _, _, _, _, _, _]) 1024 24 [(0, _), (4, _)] [(5, _)] ?_
            intro cap24 hc24 hd24
            refine st (h := O) ?_
            refine nl ?_
            refine bk ?_
            refine rg ?_
            refine st (h := O) ?_
            refine st (h := sdA) ?_
            refine st (h := O) ?_
            refine nl ?_
            refine gbk4 (_) (some _) (_) (k + 1) (_) (by exact ⟨rfl, rfl, trivial⟩) (by exact ⟨rfl, trivial⟩) (by exact (by repeat' first | exact trivial | refine And.intro rfl ?_)) (by exact add_add _ _ _) ?_ ?_ ?_
            · exact hY.app hpl
            · omega
            · refine ⟨by omega, by omega, ⟨by omega, by omega⟩, by first | (simp only [List.length_append, hcl, List.length_cons, List.length_nil]; omega) | rfl, CpR.step hgs hcs hcp hkl hx rfl rfl fun G hG => ?_⟩
              first
                | (rw [hz0]; exact .inl ⟨g2, 0, _, rfl, by simp, fun i y h => by simp at h⟩)
                | (rw [hge]; exact .inl ⟨g2, 0, _, rfl, by simp, fun i y h => by simp at h⟩)
                | exact Rd.ivsW hG List.mem_cons_self rfl (by omega) hg63
        · obtain rfl : k = l.length := by omega
          refine ex ?_
          refine sq ?_
          refine rg ?_
          iterate 2 (refine st (h := O) ?_)
          refine nl ?_
          refine rtY hY fun ι hV => ⟨?_, fun G hG => ?_⟩
          · first | exact .inr ⟨0, 0, rfl⟩ | exact .inl ⟨_, _, _, _, rfl⟩
          · first
              | (exfalso; omega)
              | exact .inr ⟨rfl, List.eq_nil_of_length_eq_zero (by omega)⟩
              | (rw [show m = l.length from hmk]; exact Copied (r := Row.r ι { elem := 49, cs := cs, room := cap_o * 11, fz := false, flat := true }) hcp (by omega) (by show cs.map (r1 ι) = _; rw [cs_c hcp hcs ι]; exact hcs) (fun x hx => hG x (by simpa using hx)) (by omega))
  ·
    refine C.go hT Try.func12 Try.ntmps12 ?_
    refine sq ?_
    refine rg ?_
    refine st (h := O) ?_
    refine nl ?_
    refine sq ?_
    refine rg ?_
    refine st (h := O) ?_
    refine nl ?_
    iterate 2 (refine sq ?_)
    refine rg ?_
    refine st (h := O) ?_
    refine nl ?_
    refine bl ?_
    refine J.loop1 (α := Nat) (fun k => k = 0) (fun k => [(3, .slice none 0 0), (4, .int .i64 k)]) [(0, _)] (fun k => []) [] (fun k => 0) (0) (by exact ⟨rfl, rfl, trivial⟩) (by exact ⟨rfl, trivial⟩) (by exact trivial) ?_ ?_
    · rfl
    · intro k L1 K1 e1 e2 hI
      dsimp only [apV, apR, List.cons_append, List.nil_append] at e1 e2
      subst e1 e2
      subst hI
      iterate 2 (refine sq ?_)
      refine rg ?_
      iterate 4 (refine st (h := O) ?_)
      refine nl ?_
      refine cD (fun c0 => ?_) (fun c0 => ?_)
      · exact absurd c0 (by decide)
      · refine ex ?_
        refine sq ?_
        refine rg ?_
        iterate 2 (refine st (h := O) ?_)
        refine nl ?_
        exact rt ⟨.inr ⟨0, 0, rfl⟩, fun G _ => .inr ⟨rfl, rfl⟩⟩

end Go.Proofs.Ytbeblgjibfoanaa.Am
