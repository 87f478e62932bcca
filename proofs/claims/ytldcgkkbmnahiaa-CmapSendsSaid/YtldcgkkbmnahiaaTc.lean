/- plain specs of the table's readers -/
import Derived.Test.YtldcgkkbmnahiaaTb
import Derived.Test.YtldcgkkbmnahiaaPxx2
namespace Go.Proofs.Ytldcgkkbmnahiaa.Px
set_option linter.unusedSimpArgs false
set_option linter.unusedVariables false
open Go.RowKit Go.Proofs.YtldcgkkbmnahiaaW.PrintWords Go.Proofs.YtldcgkkbmnahiaaW.PrintLast Go.Proofs.YtldcgkkbmnahiaaW.PrintMore

def tw (t : ByteArray) (i : Int) : Int := bt t i * 256 + bt t (i + 1)
def fo (t : ByteArray) (i : Int) : Int := tw t i * 65536 + tw t (i + 2)
theorem wrap64_small {x : Int} (h0 : -9223372036854775808 ≤ x) (h1 : x ≤ 9223372036854775807) : wrap64 x = x := by unfold wrap64; omega
theorem wraps_i64 (n : Int) (h0 : 0 ≤ n) (h1 : n < 2 ^ 63) : IntKind.i64.wrap n = n := by rw [IntKind.wrap_i64]; omega
theorem i64_or (i : Nat) (x y : Int) (hi : i ≤ 32) (h0 : 0 ≤ x) (hx : x % 2 ^ i = 0) (h1 : x < 9223372036854775808) (h2 : 0 ≤ y) (h3 : y < 2 ^ i) : Go.bits .or .i64 x y = x + y := by
  have hp : (2 : Nat) ^ i ≤ 2 ^ 32 := Nat.pow_le_pow_right (by decide) hi
  have hp2 : ((2 ^ i : Nat) : Int) ≤ ((2 ^ 32 : Nat) : Int) := Int.ofNat_le.2 hp
  have hp3 : ((2 ^ i : Nat) : Int) = (2 : Int) ^ i := by rw [Int.natCast_pow]; rfl
  have hp4 : ((2 ^ 32 : Nat) : Int) = 4294967296 := by decide
  exact bits_join .i64 63 (by decide) wraps_i64 i x y h0 hx (by omega) h2 h3 (by omega)
theorem tw_bd (t : ByteArray) (i : Int) : 0 ≤ tw t i ∧ tw t i ≤ 65535 := by
  unfold tw; have := bt_range t i; have := bt_range t (i + 1); omega
theorem fo_bd (t : ByteArray) (i : Int) : 0 ≤ fo t i ∧ fo t i ≤ 4294967295 := by
  unfold fo; have := tw_bd t i; have := tw_bd t (i + 2); omega
theorem two_f (t : ByteArray) (i : Int) (h0 : 0 ≤ i) (h1 : i + 2 ≤ t.size) (hs : t.size ≤ 9223372036854775807) : cmap_two.f t i = some (tw t i) := by
  have b0 := bt_range t i
  have b1 := bt_range t (i + 1)
  unfold cmap_two.f
  rw [wrap64_small (x := i + 1) (by omega) (by omega), if_pos h0, if_pos (by omega), if_pos (by omega), if_pos (by omega)]
  rw [wrap64_small (x := bt t i) (by omega) (by omega), wrap64_small (x := bt t i * 256) (by omega) (by omega), wrap64_small (x := bt t (i + 1)) (by omega) (by omega)]
  rw [i64_or 8 _ _ (by decide) (by omega) (by omega) (by omega) (by omega) (by omega)]
  rfl
theorem four_f (t : ByteArray) (i : Int) (h0 : 0 ≤ i) (h1 : i + 4 ≤ t.size) (hs : t.size ≤ 9223372036854775807) : cmap_four.f t i = some (fo t i) := by
  have b0 := tw_bd t i
  have b1 := tw_bd t (i + 2)
  unfold cmap_four.f
  rw [two_f t i h0 (by omega) hs]
  simp only [Option.bind_some]
  rw [wrap64_small (x := i + 2) (by omega) (by omega), two_f t (i + 2) (by omega) (by omega) hs]
  simp only [Option.bind_some]
  rw [wrap64_small (x := tw t i * 65536) (by omega) (by omega), i64_or 16 _ _ (by decide) (by omega) (by omega) (by omega) (by omega) (by omega)]
  rfl
/-- so many codes from c on, shown by the glyphs from gl on -/
def takeRun (xs : List S47) (c gl : Int) : Nat → List S47
  | 0 => xs
  | m + 1 => takeS (takeRun xs c gl m) (c + m) (gl + m)
theorem takeS_len (xs : List S47) (c gl : Int) : (takeS xs c gl).length ≤ xs.length + 1 := by
  unfold takeS
  split
  · omega
  · split
    · simp
    · simp
theorem takeRun_len (xs : List S47) (c gl : Int) : ∀ m, (takeRun xs c gl m).length ≤ xs.length + m := by
  intro m
  induction m with
  | zero => simp [takeRun]
  | succ m ih => have := takeS_len (takeRun xs c gl m) (c + m) (gl + m); simp only [takeRun]; omega
/-- a group's three numbers -/
def gA (t : ByteArray) (i : Int) : Int := fo t (16 + 12 * i)
def gB (t : ByteArray) (i : Int) : Int := fo t (16 + 12 * i + 4)
def gG (t : ByteArray) (i : Int) : Int := fo t (16 + 12 * i + 8)
/-- what goes through the groups, row by row -/
def groupsL (t : ByteArray) (n : Int) : Nat → Int → Int → List S47 → Bool × List S47
  | 0, _, _, xs => (true, xs)
  | r + 1, i, last, xs =>
    if gB t i < gA t i ∨ gA t i ≤ last ∨ 1114111 < gB t i ∨ n ≤ gG t i + gB t i - gA t i then (false, xs)
    else groupsL t n r (i + 1) (gB t i) (takeRun xs (gA t i) (gG t i) (gB t i - gA t i + 1).toNat)
def groupsS (t : ByteArray) (n : Int) (xs : List S47) : Bool × List S47 :=
  if (t.size : Int) < 16 then (false, xs)
  else if fo t 0 ≠ 786432 then (false, xs)
  else if 4096 < fo t 12 then (false, xs)
  else if fo t 4 ≠ 16 + 12 * fo t 12 then (false, xs)
  else if (t.size : Int) < 16 + 12 * fo t 12 then (false, xs)
  else groupsL t n (fo t 12).toNat 0 (-1) xs
section
variable {P : Program} {ops : Array Oper} {Q : Exit → Act → World → Prop}
/-- The operation is a call of what this place holds. -/
theorem gate_held {rest : List Oper} {o : Oper} {a : Act} {W : World} {t : Tmp} {az : Array Operand} {ts : Array TypeId} (_ho : o.op = .call { callee := .value (.tmp t), args := az, argTypes := ts }) (h : wpList P ops Q (o :: rest) a W) : wpList P ops Q (o :: rest) a W := h
/-- A call of a closure that a place holds. -/
theorem goesC_ {rest : List Oper} {oi : Oper} {a : Act} {w : World} (N : Option Tmp) (hd : oi.dst = N) (hg : oi.guard = none) {t : Tmp} {f : FuncId} {fn : Func} {cap : Array Value} {az : Array Operand} {ts : Array TypeId} (hf : P.funcs[f]? = some fn) (hname : (fn.name == "runtime.NumGoroutine") = false) (hb : fn.body.isSome = true) (args : Array Value)
    (hop : oi.op = .call { callee := .value (.tmp t), args := az, argTypes := ts }) (hcl : a.eval (.tmp t) = .func (.func f) #[] cap) (hargs : az.map a.eval ++ cap = args)
    (h : Calls P f args w fun e w' => ∃ v, e = .returned v ∧ wpList P ops Q rest (a.put N v) w') : wpList P ops Q (oi :: rest) a w := by
  refine wpList_plain hg fun K hK => ?_
  have he := enters_ hf hname hb args w
  have hrun : (execOp a.eval oi).run P w = .ok (.enter f args) w := by
    unfold execOp
    simp [hop, resolve, hcl, Deferred.ofValue, invoke, hargs, he]
  unfold Oper.wp
  rw [hrun, Oper.upon_enter]
  refine h.mono fun e w'' hh => ?_
  obtain ⟨v, rfl, hk⟩ := hh
  subst hd
  exact hK _ _ hk
end

end Go.Proofs.Ytldcgkkbmnahiaa.Px
