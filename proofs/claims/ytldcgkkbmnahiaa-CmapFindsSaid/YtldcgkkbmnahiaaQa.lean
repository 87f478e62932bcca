/- the reference's small parts -/
import Derived.Test.YtldcgkkbmnahiaaTh
import Derived.Test.YtldcgkkbmnahiaaPxx7
namespace Go.Proofs.Ytldcgkkbmnahiaa.Px
set_option linter.unusedSimpArgs false
set_option linter.unusedVariables false
open Go.RowKit Go.Proofs.YtldcgkkbmnahiaaW.PrintWords Go.Proofs.YtldcgkkbmnahiaaW.PrintLast Go.Proofs.YtldcgkkbmnahiaaW.PrintMore

/-- the reference's numbers: 0 past the end -/
def u2 (t : ByteArray) (i : Int) : Int := if i < 0 ∨ (t.size : Int) - 2 < i then 0 else tw t i
def u4 (t : ByteArray) (i : Int) : Int := u2 t i * 65536 + u2 t (i + 2)
theorem u2_in {t : ByteArray} {i : Int} (h0 : 0 ≤ i) (h1 : i + 2 ≤ t.size) : u2 t i = tw t i := if_neg (by omega)
theorem u4_in {t : ByteArray} {i : Int} (h0 : 0 ≤ i) (h1 : i + 4 ≤ t.size) : u4 t i = fo t i := by unfold u4 fo; rw [u2_in h0 (by omega), u2_in (by omega) (by omega)]
theorem u2_bd (t : ByteArray) (i : Int) : 0 ≤ u2 t i ∧ u2 t i ≤ 65535 := by
  unfold u2; split
  · omega
  · exact tw_bd t i
theorem u4_bd (t : ByteArray) (i : Int) : 0 ≤ u4 t i ∧ u4 t i ≤ 4294967295 := by
  unfold u4; have := u2_bd t i; have := u2_bd t (i + 2); omega
theorem U2_f (t : ByteArray) (i : Int) (hs : t.size ≤ 9223372036854775807) : colophonref08_U2.f t i = some (u2 t i) := by
  unfold colophonref08_U2.f u2
  rw [wrap64_small (x := (t.size : Int) - 2) (by omega) (by omega)]
  by_cases h : i < 0
  · rw [if_pos h, if_pos (.inl h)]
  · rw [if_neg h]
    by_cases h2 : (t.size : Int) - 2 < i
    · rw [if_pos h2, if_pos (.inr h2)]
    · rw [if_neg h2, if_neg (show ¬ (i < 0 ∨ (t.size : Int) - 2 < i) from by omega)]
      have := two_f t i (by omega) (by omega) hs
      unfold cmap_two.f at this
      exact this
theorem U4_f (t : ByteArray) (i : Int) (hs : t.size ≤ 9223372036854775807) (h1 : -9223372036854775808 ≤ i) (h2 : i ≤ 9223372036854775805) : colophonref08_U4.f t i = some (u4 t i) := by
  unfold colophonref08_U4.f
  have b0 := u2_bd t i
  have b1 := u2_bd t (i + 2)
  rw [U2_f t i hs]
  simp only [Option.bind_some]
  rw [wrap64_small (x := i + 2) (by omega) (by omega), U2_f t _ hs]
  simp only [Option.bind_some]
  rw [wrap64_small (x := u2 t i * 65536) (by omega) (by omega), i64_or 16 _ _ (by decide) (by omega) (by omega) (by omega) (by omega) (by omega)]
  rfl
theorem Is_f (c : Int) (h0 : 0 ≤ c) (h1 : c ≤ 1114111) : colophonref04_Is.f c = some (!decide (55296 ≤ c ∧ c ≤ 57343)) := by
  unfold colophonref04_Is.f
  rw [if_pos h0, if_pos h1]
  by_cases h : c < 55296
  · rw [if_pos h, decide_eq_false (by omega)]; rfl
  · rw [if_neg h]
    by_cases h2 : c > 57343
    · rw [decide_eq_true h2, decide_eq_false (by omega)]; rfl
    · rw [decide_eq_false h2, decide_eq_true (by omega)]; rfl
/-- a span of codes and glyphs as they may be -/
def Ok47 (x : S47) : Prop := 0 ≤ x.f0 ∧ x.f0 ≤ 1114111 ∧ 0 ≤ x.f1 ∧ x.f1 ≤ 1114111 ∧ 0 ≤ x.f2 ∧ x.f2 ≤ 8589934592
def AllOk (xs : List S47) : Prop := ∀ x ∈ xs, Ok47 x
theorem rd_T47_mem {xs : List S47} {i : Int} (h0 : 0 ≤ i) (h1 : i < xs.length) : rd_T47 xs i ∈ xs := by
  unfold rd_T47
  rw [List.getD_eq_getElem?_getD, List.getElem?_eq_getElem (by omega)]
  exact List.getElem_mem _
theorem takeS_ok {xs : List S47} {c g : Int} (h : AllOk xs) (c0 : 0 ≤ c) (c1 : c ≤ 1114111) (g0 : 0 ≤ g) (g1 : g ≤ 8589934592) : AllOk (takeS xs c g) := by
  unfold takeS
  split
  · exact h
  · split
    · rename_i h2
      intro x hx
      rcases List.mem_or_eq_of_mem_set hx with hx | rfl
      · exact h x hx
      · have := h _ (rd_T47_mem (xs := xs) (i := (xs.length : Int) - 1) (by omega) (by omega))
        unfold Ok47 at this ⊢
        unfold lastT
        simp only
        omega
    · intro x hx
      rcases List.mem_append.1 hx with hx | hx
      · exact h x hx
      · rw [List.mem_singleton.1 hx]; unfold Ok47; simp only; omega
theorem takeS_grow (xs : List S47) (c g : Int) : xs.length ≤ (takeS xs c g).length := by
  unfold takeS
  split
  · omega
  · split
    · simp
    · simp
theorem add_ev (xs : List S47) (c g : Int) (h : AllOk xs) (hl : xs.length ≤ 4096) (c0 : 0 ≤ c) (c1 : c ≤ 1114111) (g0 : 0 ≤ g) (g1 : g ≤ 8589934592) :
    Ev (fun k => colophonref11_add.f k xs c g) (if (takeS xs c g).length ≤ 4096 then (takeS xs c g, true) else ([], false)) := by
  refine ⟨2, fun k hk => ?_⟩
  obtain ⟨m, rfl⟩ : ∃ m, k = m + 2 := ⟨k - 2, by omega⟩
  show colophonref11_add.f (m + 2) xs c g = _
  unfold colophonref11_add.f
  by_cases h0 : g = 0
  · rw [if_pos h0]
    have e : takeS xs c g = xs := by unfold takeS; rw [if_pos (.inl h0)]
    rw [e, if_pos hl]
    simp only [colophonref11_add.j0, if_true]
  · rw [if_neg h0, Is_f c c0 c1]
    simp only [Option.bind_some, Bool.not_not]
    by_cases hs : 55296 ≤ c ∧ c ≤ 57343
    · have e : takeS xs c g = xs := by unfold takeS; rw [if_pos (.inr hs)]
      rw [e, if_pos hl, decide_eq_true hs]
      simp only [colophonref11_add.j0, if_true]
    · rw [decide_eq_false hs]
      have et : takeS xs c g = if 0 < xs.length ∧ wrap64 ((lastT xs).f1 + 1) = c ∧ wrap64 (wrap64 ((lastT xs).f2 + c) - (lastT xs).f0) = g then xs.set ((xs.length : Int) - 1).toNat (⟨(lastT xs).f0, c, (lastT xs).f2⟩ : S47) else xs ++ [(⟨c, c, g⟩ : S47)] := by
        unfold takeS; rw [if_neg (fun hh => by rcases hh with hh | hh <;> contradiction)]
      have ee : wrap64 ((xs.length : Int) - 1) = (xs.length : Int) - 1 := wrap64_small (by omega) (by omega)
      simp only [colophonref11_add.j0]
      rw [if_neg (by decide), ee]
      have happ : ∀ (x8 : Int), takeS xs c g = xs ++ [(⟨c, c, g⟩ : S47)] → colophonref11_add.j1 (m + 1) xs c g x8 false = some (if (takeS xs c g).length ≤ 4096 then (takeS xs c g, true) else ([], false)) := by
        intro x8 e
        simp only [colophonref11_add.j1]
        rw [if_neg (by decide), e]
        by_cases h4 : xs.length = 4096
        · rw [if_pos (by omega), if_neg (by simp; omega)]
        · rw [if_neg (by omega), if_pos (by omega), if_pos (by simp; omega)]
      by_cases hx : 0 < xs.length
      · have hk := h _ (rd_T47_mem (xs := xs) (i := (xs.length : Int) - 1) (by omega) (by omega))
        change Ok47 (lastT xs) at hk
        unfold Ok47 at hk
        rw [if_pos (by omega), if_pos (by omega), if_pos (by omega)]
        change (if (lastT xs).f1 = wrap64 (c - 1) then colophonref11_add.j1 (m + 1) xs c g ((xs.length : Int) - 1) ((wrap64 ((wrap64 ((wrap64 ((lastT xs).f2 + (lastT xs).f1)) - (lastT xs).f0)) + 1)) == g) else _) = _
        rw [wrap64_small (x := c - 1) (by omega) (by omega), wrap64_small (x := (lastT xs).f2 + (lastT xs).f1) (by omega) (by omega), wrap64_small (x := (lastT xs).f2 + (lastT xs).f1 - (lastT xs).f0) (by omega) (by omega), wrap64_small (x := (lastT xs).f2 + (lastT xs).f1 - (lastT xs).f0 + 1) (by omega) (by omega)]
        rw [wrap64_small (x := (lastT xs).f1 + 1) (by omega) (by omega), wrap64_small (x := (lastT xs).f2 + c) (by omega) (by omega), wrap64_small (x := (lastT xs).f2 + c - (lastT xs).f0) (by omega) (by omega)] at et
        by_cases h5 : (lastT xs).f1 = c - 1
        · rw [if_pos h5]
          by_cases h6 : (lastT xs).f2 + (lastT xs).f1 - (lastT xs).f0 + 1 = g
          · rw [if_pos ⟨hx, by omega, by omega⟩] at et
            rw [beq_iff_eq.2 h6]
            simp only [colophonref11_add.j1]
            rw [if_pos trivial, if_pos (by omega), if_pos (by omega), et, if_pos (by simpa using hl)]
            rfl
          · rw [if_neg (fun hh => h6 (by omega))] at et
            rw [beq_eq_false_iff_ne.2 h6]
            exact happ _ et
        · rw [if_neg (fun hh => h5 (by omega))] at et
          rw [if_neg h5]
          exact happ _ et
      · rw [if_neg (fun hh => hx hh.1)] at et
        rw [if_neg (by omega)]
        exact happ _ et
theorem takeRun_head (xs : List S47) (c g : Int) : ∀ m, takeRun xs c g (m + 1) = takeRun (takeS xs c g) (c + 1) (g + 1) m := by
  intro m
  induction m with
  | zero => simp only [takeRun]; simp
  | succ m ih =>
    rw [takeRun, ih]
    simp only [takeRun]
    congr 1 <;> omega
theorem takeRun_grow (c g : Int) : ∀ m (xs : List S47), xs.length ≤ (takeRun xs c g m).length := by
  intro m
  induction m with
  | zero => intro xs; simp [takeRun]
  | succ m ih => intro xs; simp only [takeRun]; have := ih xs; have := takeS_grow (takeRun xs c g m) (c + m) (g + m); omega
/-- the first bytes -/
theorem pre4 (t : ByteArray) (b0 b1 b2 b3 : UInt8) (h : 4 ≤ t.size) : ((t.extract 0 4).toList = [b0, b1, b2, b3]) ↔ (bt t 0 = b0.toNat ∧ bt t 1 = b1.toNat ∧ bt t 2 = b2.toNat ∧ bt t 3 = b3.toNat) := by
  obtain ⟨⟨l⟩⟩ := t
  match l, h with
  | a :: b :: c :: d :: r, _ =>
    have e : ((ByteArray.mk ⟨a :: b :: c :: d :: r⟩).extract 0 4).toList = [a, b, c, d] := by
      rw [Go.ByteArray.toList_eq]; simp [ByteArray.data_extract]
    rw [e]
    have e0 : bt (ByteArray.mk ⟨a :: b :: c :: d :: r⟩) 0 = a.toNat := (dif_pos (show (0 : Int).toNat < (ByteArray.mk ⟨a :: b :: c :: d :: r⟩).size from (by show 0 < (a :: b :: c :: d :: r).length; simp))).trans rfl
    have e1 : bt (ByteArray.mk ⟨a :: b :: c :: d :: r⟩) 1 = b.toNat := (dif_pos (show (1 : Int).toNat < (ByteArray.mk ⟨a :: b :: c :: d :: r⟩).size from (by show 1 < (a :: b :: c :: d :: r).length; simp))).trans rfl
    have e2 : bt (ByteArray.mk ⟨a :: b :: c :: d :: r⟩) 2 = c.toNat := (dif_pos (show (2 : Int).toNat < (ByteArray.mk ⟨a :: b :: c :: d :: r⟩).size from (by show 2 < (a :: b :: c :: d :: r).length; simp))).trans rfl
    have e3 : bt (ByteArray.mk ⟨a :: b :: c :: d :: r⟩) 3 = d.toNat := (dif_pos (show (3 : Int).toNat < (ByteArray.mk ⟨a :: b :: c :: d :: r⟩).size from (by show 3 < (a :: b :: c :: d :: r).length; simp))).trans rfl
    rw [e0, e1, e2, e3]
    simp only [List.cons.injEq, and_true, Int.natCast_inj, UInt8.toNat_inj]
theorem pre2 (t : ByteArray) (b0 b1 : UInt8) (h : 2 ≤ t.size) : ((t.extract 0 2).toList = [b0, b1]) ↔ (bt t 0 = b0.toNat ∧ bt t 1 = b1.toNat) := by
  obtain ⟨⟨l⟩⟩ := t
  match l, h with
  | a :: b :: r, _ =>
    have e : ((ByteArray.mk ⟨a :: b :: r⟩).extract 0 2).toList = [a, b] := by
      rw [Go.ByteArray.toList_eq]; simp [ByteArray.data_extract]
    rw [e]
    have e0 : bt (ByteArray.mk ⟨a :: b :: r⟩) 0 = a.toNat := (dif_pos (show (0 : Int).toNat < (ByteArray.mk ⟨a :: b :: r⟩).size from (by show 0 < (a :: b :: r).length; simp))).trans rfl
    have e1 : bt (ByteArray.mk ⟨a :: b :: r⟩) 1 = b.toNat := (dif_pos (show (1 : Int).toNat < (ByteArray.mk ⟨a :: b :: r⟩).size from (by show 1 < (a :: b :: r).length; simp))).trans rfl
    rw [e0, e1]
    simp only [List.cons.injEq, and_true, Int.natCast_inj, UInt8.toNat_inj]
theorem fo_0 (t : ByteArray) (v : Int) (h : 4 ≤ t.size) : fo t 0 = 786432 ↔ (t.extract 0 4).toList = ([0, 12, 0, 0] : List UInt8) := by
  rw [pre4 t _ _ _ _ h]
  unfold fo tw
  have b0 := bt_range t 0
  have b1 := bt_range t 1
  have b2 := bt_range t 2
  have b3 := bt_range t 3
  simp only [Int.zero_add, show (2 : Int) + 1 = 3 from rfl]
  show _ ↔ (bt t 0 = 0 ∧ bt t 1 = 12 ∧ bt t 2 = 0 ∧ bt t 3 = 0)
  omega
theorem tw_0 (t : ByteArray) (v : Nat) (hv : v < 256) (b : UInt8) (hb : (b.toNat : Int) = v) (h : 2 ≤ t.size) : tw t 0 = v ↔ (t.extract 0 2).toList = ([0, b] : List UInt8) := by
  rw [pre2 t _ _ h]
  unfold tw
  have b0 := bt_range t 0
  have b1 := bt_range t 1
  simp only [Int.zero_add]
  show _ ↔ (bt t 0 = 0 ∧ bt t 1 = b.toNat)
  rw [hb]
  omega

end Go.Proofs.Ytldcgkkbmnahiaa.Px
