/- Lemmas on the number of bits of a word, for the statements of chapter 01: no condition beyond what each lemma says. -/
import Derived.Test.YtamfhlafhkgapaaFb
namespace Go.Proofs.Ytamfhlafhkgapaa.Px
set_option linter.unusedSimpArgs false
set_option linter.unusedVariables false
open Go.RowKit Go.Proofs.YtamfhlafhkgapaaW.PrintWords Go.Proofs.YtamfhlafhkgapaaW.PrintLast Go.Proofs.YtamfhlafhkgapaaW.PrintMore


def ltab : ByteArray := ⟨#[0, 1, 2, 2, 3, 3, 3, 3, 4, 4, 4, 4, 4, 4, 4, 4, 5, 5, 5, 5, 5, 5, 5, 5, 5, 5, 5, 5, 5, 5, 5, 5, 6, 6, 6, 6, 6, 6, 6, 6, 6, 6, 6, 6, 6, 6, 6, 6, 6, 6, 6, 6, 6, 6, 6, 6, 6, 6, 6, 6, 6, 6, 6, 6, 7, 7, 7, 7, 7, 7, 7, 7, 7, 7, 7, 7, 7, 7, 7, 7, 7, 7, 7, 7, 7, 7, 7, 7, 7, 7, 7, 7, 7, 7, 7, 7, 7, 7, 7, 7, 7, 7, 7, 7, 7, 7, 7, 7, 7, 7, 7, 7, 7, 7, 7, 7, 7, 7, 7, 7, 7, 7, 7, 7, 7, 7, 7, 7, 8, 8, 8, 8, 8, 8, 8, 8, 8, 8, 8, 8, 8, 8, 8, 8, 8, 8, 8, 8, 8, 8, 8, 8, 8, 8, 8, 8, 8, 8, 8, 8, 8, 8, 8, 8, 8, 8, 8, 8, 8, 8, 8, 8, 8, 8, 8, 8, 8, 8, 8, 8, 8, 8, 8, 8, 8, 8, 8, 8, 8, 8, 8, 8, 8, 8, 8, 8, 8, 8, 8, 8, 8, 8, 8, 8, 8, 8, 8, 8, 8, 8, 8, 8, 8, 8, 8, 8, 8, 8, 8, 8, 8, 8, 8, 8, 8, 8, 8, 8, 8, 8, 8, 8, 8, 8, 8, 8, 8, 8, 8, 8, 8, 8, 8, 8, 8, 8, 8, 8, 8, 8, 8, 8, 8, 8, 8, 8]⟩
theorem ltab_at : ∀ n : Fin 256, bt ltab ((n : Nat) : Int) = (if n.val = 0 then 0 else (Nat.log2 n.val + 1 : Nat)) := by decide +kernel
theorem ltab_pow : ∀ n : Fin 256, 0 < n.val → 0 < bt ltab ((n : Nat) : Int) ∧ bt ltab ((n : Nat) : Int) ≤ 8 ∧ n.val < 2 ^ (bt ltab ((n : Nat) : Int)).toNat ∧ 2 ^ ((bt ltab ((n : Nat) : Int)).toNat - 1) ≤ n.val := by decide +kernel
theorem ltab_int (x : Int) (h0 : 0 < x) (h1 : x < 256) : 0 < bt ltab x ∧ bt ltab x ≤ 8 ∧ x < 2 ^ (bt ltab x).toNat ∧ 2 ^ ((bt ltab x).toNat - 1) ≤ x := by
  obtain ⟨n, rfl⟩ := Int.eq_ofNat_of_zero_le (Int.le_of_lt h0)
  have h := ltab_pow ⟨n, by omega⟩ (by simpa using h0)
  refine ⟨h.1, h.2.1, ?_, ?_⟩
  · exact_mod_cast h.2.2.1
  · exact_mod_cast h.2.2.2
/-- the number of bits: what 'Len64' says -/
def IsLen (x L : Int) : Prop := 0 < L ∧ x < 2 ^ L.toNat ∧ 2 ^ (L.toNat - 1) ≤ x
theorem isLen_up {x L : Int} (c : Nat) (h : IsLen (x / 2 ^ c) L) : IsLen x (L + c) := by
  obtain ⟨h0, h1, h2⟩ := h
  have hp : (0 : Int) < 2 ^ c := Int.pow_pos (by decide)
  have e1 : (L + c).toNat = L.toNat + c := by omega
  have e2 : (L + c).toNat - 1 = (L.toNat - 1) + c := by omega
  refine ⟨by omega, ?_, ?_⟩
  · rw [e1, Int.pow_add]
    exact (Int.ediv_lt_iff_lt_mul hp).1 h1
  · rw [e2, Int.pow_add]
    exact (Int.le_ediv_iff_mul_le hp).1 h2
theorem isLen_tab {x : Int} (h0 : 0 < x) (h1 : x < 256) : IsLen x (bt ltab x) := by
  have h := ltab_int x h0 h1
  exact ⟨h.1, h.2.2.1, h.2.2.2⟩
theorem wrap64_small {x : Int} (h0 : -9223372036854775808 ≤ x) (h1 : x ≤ 9223372036854775807) : wrap64 x = x := by unfold wrap64; omega
set_option maxRecDepth 100000 in
theorem Len64_j (k : Nat) (x c : Int) (h0 : 0 < x) (h1 : x < 4294967296) (hc0 : 0 ≤ c) (hc : c ≤ 32) :
    ∃ L, bits_Len64.j0 (k + 1) x c = some (L + c) ∧ IsLen x L ∧ L ≤ 32 := by
  rw [bits_Len64.j0]
  change ∃ L, (if x ≥ 65536 then (if (x / 65536) ≥ 256 then (if 0 ≤ (((x / 65536) / 256) % 256) then (if (((x / 65536) / 256) % 256) < 256 then (some (wrap64 ((wrap64 ((wrap64 (c + 16)) + 8)) + (wrap64 (bt ltab (((x / 65536) / 256) % 256)))))) else (none)) else (none)) else (if 0 ≤ ((x / 65536) % 256) then (if ((x / 65536) % 256) < 256 then (some (wrap64 ((wrap64 (c + 16)) + (wrap64 (bt ltab ((x / 65536) % 256)))))) else (none)) else (none))) else (if x ≥ 256 then (if 0 ≤ ((x / 256) % 256) then (if ((x / 256) % 256) < 256 then (some (wrap64 ((wrap64 (c + 8)) + (wrap64 (bt ltab ((x / 256) % 256)))))) else (none)) else (none)) else (if 0 ≤ ((x) % 256) then (if ((x) % 256) < 256 then (some (wrap64 (c + (wrap64 (bt ltab ((x) % 256)))))) else (none)) else (none)))) = some (L + c) ∧ IsLen x L ∧ L ≤ 32
  by_cases c1 : x ≥ 65536
  · rw [if_pos c1]
    by_cases c2 : (x / 65536) ≥ 256
    · have e : (x / 65536) / 256 % 256 = x / 2 ^ 24 := by omega
      have hl := ltab_int (x / 2 ^ 24) (by omega) (by omega)
      have hL := isLen_up 24 (isLen_tab (x := x / 2 ^ 24) (by omega) (by omega))
      rw [if_pos c2, e, if_pos (by omega), if_pos (by omega)]
      refine ⟨bt ltab (x / 2 ^ 24) + 24, ?_, hL, by omega⟩
      rw [wrap64_small (x := bt ltab (x / 2 ^ 24)) (by omega) (by omega), wrap64_small (x := c + 16) (by omega) (by omega), wrap64_small (x := c + 16 + 8) (by omega) (by omega), wrap64_small (by omega) (by omega)]
      congr 1; omega
    · have e : x / 65536 % 256 = x / 2 ^ 16 := by omega
      have hl := ltab_int (x / 2 ^ 16) (by omega) (by omega)
      have hL := isLen_up 16 (isLen_tab (x := x / 2 ^ 16) (by omega) (by omega))
      rw [if_neg c2, e, if_pos (by omega), if_pos (by omega)]
      refine ⟨bt ltab (x / 2 ^ 16) + 16, ?_, hL, by omega⟩
      rw [wrap64_small (x := bt ltab (x / 2 ^ 16)) (by omega) (by omega), wrap64_small (x := c + 16) (by omega) (by omega), wrap64_small (by omega) (by omega)]
      congr 1; omega
  · rw [if_neg c1]
    by_cases c2 : x ≥ 256
    · have e : x / 256 % 256 = x / 2 ^ 8 := by omega
      have hl := ltab_int (x / 2 ^ 8) (by omega) (by omega)
      have hL := isLen_up 8 (isLen_tab (x := x / 2 ^ 8) (by omega) (by omega))
      rw [if_pos c2, e, if_pos (by omega), if_pos (by omega)]
      refine ⟨bt ltab (x / 2 ^ 8) + 8, ?_, hL, by omega⟩
      rw [wrap64_small (x := bt ltab (x / 2 ^ 8)) (by omega) (by omega), wrap64_small (x := c + 8) (by omega) (by omega), wrap64_small (by omega) (by omega)]
      congr 1; omega
    · have e : x % 256 = x := by omega
      have hl := ltab_int x (by omega) (by omega)
      have hL := isLen_tab (x := x) (by omega) (by omega)
      rw [if_neg c2, e, if_pos (by omega), if_pos (by omega)]
      refine ⟨bt ltab x, ?_, hL, by omega⟩
      rw [wrap64_small (x := bt ltab x) (by omega) (by omega), wrap64_small (by omega) (by omega)]
      congr 1; omega
theorem Len64_f (k : Nat) (x : Int) (h0 : 0 < x) (h1 : x < 18446744073709551616) : ∃ L, bits_Len64.f (k + 1) x = some L ∧ IsLen x L ∧ L ≤ 64 := by
  unfold bits_Len64.f
  by_cases c : x ≥ 4294967296
  · rw [if_pos c]
    obtain ⟨L, e, h, hl⟩ := Len64_j k (x / 4294967296) 32 (by omega) (by omega) (by omega) (by omega)
    exact ⟨L + 32, e, isLen_up 32 h, by omega⟩
  · rw [if_neg c]
    obtain ⟨L, e, h, hl⟩ := Len64_j k x 0 (by omega) (by omega) (by omega) (by omega)
    exact ⟨L, by rw [e]; simp, h, by omega⟩
theorem LeadingZeros_f (k : Nat) (y : Int) (h0 : 0 < y) (h1 : y < 18446744073709551616) :
    ∃ s : Nat, bits_LeadingZeros64.f (k + 1) y = some (s : Int) ∧ s ≤ 63 ∧ 9223372036854775808 ≤ y * 2 ^ s ∧ y * 2 ^ s < 18446744073709551616 := by
  obtain ⟨L, e, ⟨hL0, hL1, hL2⟩, hl⟩ := Len64_f k y h0 h1
  obtain ⟨n, rfl⟩ := Int.eq_ofNat_of_zero_le (Int.le_of_lt hL0)
  simp only [Int.toNat_natCast] at hL1 hL2
  have hn : n ≤ 64 := by omega
  have hn0 : 0 < n := by omega
  refine ⟨64 - n, ?_, by omega, ?_, ?_⟩
  · unfold bits_LeadingZeros64.f
    rw [e]; simp only [Option.bind_some]
    rw [wrap64_small (by omega) (by omega)]
    congr 1; omega
  · have h := Int.mul_le_mul_of_nonneg_right hL2 (Int.le_of_lt (show (0 : Int) < 2 ^ (64 - n) from Int.pow_pos (by decide)))
    rw [← Int.pow_add] at h
    rw [show n - 1 + (64 - n) = 63 from by omega] at h
    omega
  · have h := Int.mul_lt_mul_of_pos_right hL1 (show (0 : Int) < 2 ^ (64 - n) from Int.pow_pos (by decide))
    rw [← Int.pow_add] at h
    rw [show n + (64 - n) = 64 from by omega] at h
    omega


end Go.Proofs.Ytamfhlafhkgapaa.Px
