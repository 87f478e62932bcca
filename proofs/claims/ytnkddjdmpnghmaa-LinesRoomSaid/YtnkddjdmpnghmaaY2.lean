/- Rules for walking Go functions, and contracts proved by them (B1, B2, N1, N2, V1, V1p, N3, B3, B4, B6, B5, N5, N6, N7, U1, U2, U3, U4, U5, U6, U10, U7). -/
import Derived.Test.YtnkddjdmpnghmaaY1
import Derived.Below
import Derived.Laws.OwnMore
import Derived.KernelRfl
import Derived.Laws.Bits
import Derived.Laws.Strings
import Derived.Laws.Entries
import Derived.IntWalk
import Derived.Laws.Cells
import Derived.Laws.Append
import Derived.Laws.BytesString
import Derived.Laws.BytesArg
import Derived.Tactics
import Derived.Orders
import Derived.OrdersHeld
import Derived.Test.YtnkddjdmpnghmaaChecked
import Derived.Scope
import Derived.Laws.BitsLemmas
import Derived.Laws.Small
import Derived.Laws.Concat
import Derived.ChangeKeysEq
import Derived.ChangeArms
import Derived.DataReads
import Derived.WideShapes
import Derived.SizedLaws
import Derived.OpenShut
namespace Go.Proofs.Ytnkddjdmpnghmaa.Am
set_option linter.unusedSimpArgs false
set_option linter.unusedVariables false
open Go Go.RowKit
def spB : Option Nat → Bool
  | none => true
  | some 0 => true
  | _ => false
theorem addA_sp {b o : Nat} {sp : Option Nat} (h : spB sp = true) {m : Nat} : addA ⟨b, o, sp⟩ m = ⟨b, o + m, sp⟩ := by
  rcases sp with _ | _ | s
  · rfl
  · rfl
  · cases h
section
variable {F : Mem} {K : Own} {L : Slots}
theorem O {o : Op} {v : Value} (h : dOp Θ (evO L) o = some v := by rfl) : SD Try.prog F K L o v := SD.of hT h
theorem sdA {t t' : TypeId} {x y : Operand} {a b : Int} (hx : evO L x = some (.int .i64 a) := by rfl) (hy : evO L y = some (.int .i64 b) := by rfl) (h0 : -9223372036854775808 ≤ a + b := by first | omega | (dsimp only; omega)) (h1 : a + b < 9223372036854775808 := by first | omega | (dsimp only; omega)) : SD Try.prog F K L (.binOp .add t x y t') (.int .i64 (a + b)) := SD.addI hx hy h0 h1
theorem sdS {t t' : TypeId} {x y : Operand} {a b : Int} (hx : evO L x = some (.int .i64 a) := by rfl) (hy : evO L y = some (.int .i64 b) := by rfl) (h0 : -9223372036854775808 ≤ a - b := by first | omega | (dsimp only; omega)) (h1 : a - b < 9223372036854775808 := by first | omega | (dsimp only; omega)) : SD Try.prog F K L (.binOp .sub t x y t') (.int .i64 (a - b)) := SD.subI hx hy h0 h1
theorem sdM {t t' : TypeId} {x y : Operand} {a b : Int} (hx : evO L x = some (.int .i64 a) := by rfl) (hy : evO L y = some (.int .i64 b) := by rfl) (h0 : -9223372036854775808 ≤ a * b := by first | omega | (dsimp only; omega)) (h1 : a * b < 9223372036854775808 := by first | omega | (dsimp only; omega)) : SD Try.prog F K L (.binOp .mul t x y t') (.int .i64 (a * b)) := SD.mulI hx hy h0 h1
theorem sdN {t : TypeId} {x : Operand} {a : Int} (hx : evO L x = some (.int .i64 a) := by rfl) (h0 : -9223372036854775808 ≤ -a := by first | omega | (dsimp only; omega)) (h1 : -a < 9223372036854775808 := by first | omega | (dsimp only; omega)) : SD Try.prog F K L (.unOp .neg t x) (.int .i64 (-a)) := SD.negI hx h0 h1
theorem sdQ {t t' : TypeId} {x y : Operand} {a b : Int} (hx : evO L x = some (.int .i64 a) := by rfl) (hy : evO L y = some (.int .i64 b) := by rfl) (h0 : 0 ≤ a := by first | omega | (dsimp only; omega)) (h1 : a < 9223372036854775808 := by first | omega | (dsimp only; omega)) (h2 : 0 < b := by first | omega | (dsimp only; omega)) : SD Try.prog F K L (.binOp .quo t x y t') (.int .i64 (a / b)) := SD.quoI hx hy h0 h1 h2
theorem sdSl {t t' : TypeId} {x y : Operand} {k j : IntKind} {a b : Int} (hx : evO L x = some (.int k a) := by rfl) (hy : evO L y = some (.int j b) := by rfl) (hb : 0 ≤ b := by first | omega | (dsimp only; omega)) : SD Try.prog F K L (.binOp .shl t x y t') (.int k (k.wrap (a * 2 ^ (min b.toNat k.bits)))) := SD.shlK hx hy hb
theorem sdX {t el : TypeId} {x i : Operand} {b off n c z : Nat} {sp : Option Nat} {k : IntKind} {q : Int} {ti tj : Ty} (ht : Θ.lookup t = some ti := by rfl) (hk : ti.k = .slice el := by rfl) (hj : Θ.lookup el = some tj := by rfl) (hz : tj.size = z := by rfl) (hx : evO L x = some (.slice (some ⟨b, off, sp⟩) n c) := by rfl) (hi : evO L i = some (.int k q) := by rfl) (h0 : 0 ≤ q := by first | omega | (dsimp only; omega)) (h1 : q < n := by first | omega | (dsimp only; omega)) (hs : spB sp = true := by rfl) : SD Try.prog F K L (.indexAddr t x i) (.pointer (some ⟨b, off + q.toNat * z, sp⟩)) := by
  have h := SD.idxS (F := F) (K := K) hT ht hk hj hx hi h0 h1
  rw [addA_sp hs, hz] at h
  exact h
theorem sdXA {t el : TypeId} {x i : Operand} {b off n z : Nat} {sp : Option Nat} {k : IntKind} {q : Int} {ti tj : Ty} (ht : Θ.lookup t = some ti := by rfl) (hk : ti.k = .array n el := by rfl) (hj : Θ.lookup el = some tj := by rfl) (hz : tj.size = z := by rfl) (hx : evO L x = some (.pointer (some ⟨b, off, sp⟩)) := by rfl) (hi : evO L i = some (.int k q) := by rfl) (h0 : 0 ≤ q := by first | omega | (dsimp only; omega)) (h1 : q < n := by first | omega | (dsimp only; omega)) (hs : spB sp = true := by rfl) : SD Try.prog F K L (.indexAddr t x i) (.pointer (some ⟨b, off + q.toNat * z, sp⟩)) := by
  have h := SD.idxA (F := F) (K := K) hT ht hk hj hx hi h0 h1
  rw [addA_sp hs, hz] at h
  exact h
theorem sdFA {s f : Nat} {x : Operand} {b off o : Nat} {sp : Option Nat} {j : Ty} (hf : fldOf Θ s f = some (o, j) := by rfl) (hj : (j.size == 0) = false := by rfl) (hx : evO L x = some (.pointer (some ⟨b, off, sp⟩)) := by rfl) (hs : spB sp = true := by rfl) : SD Try.prog F K L (.fieldAddr s x f) (.pointer (some ⟨b, off + o, sp⟩)) := by
  refine SD.of hT ?_
  have : ¬ j.size = 0 := by simpa using hj
  simp only [dOp, hf, hx, this, if_false, addA_sp hs]
theorem sdXs {t : TypeId} {x i : Operand} {s : ByteArray} {k : IntKind} {q : Int} {ti : Ty} (ht : Θ.lookup t = some ti := by rfl) (hk : ti.k = .string := by rfl) (hx : evO L x = some (.string s) := by rfl) (hi : evO L i = some (.int k q) := by rfl) (h0 : 0 ≤ q := by first | omega | (dsimp only; omega)) (h1 : q < s.size := by first | omega | (dsimp only; omega)) : SD Try.prog F K L (.index t x i) (.int .u8 (byteAt s q.toNat)) := SD.idxStr hT ht hk hx hi h0 h1
theorem sdL {t : TypeId} {x : Operand} {a : Addr} {ti : Ty} {v : Value} (ht : Θ.lookup t = some ti := by rfl) (hag : aggB ti.k = false := by rfl) (hx : evO L x = some (.pointer (some a)) := by rfl) (hv : rdA F K a = some v := by first | rfl | assumption) : SD Try.prog F K L (.load t x) v := SD.load hT ht hag hx hv
theorem sdW {t : TypeId} {x : Operand} {a : Addr} {ti : Ty} {v : Value} (ht : Θ.lookup t = some ti := by rfl) (hag : aggB ti.k = false := by rfl) (hx : evO L x = some (.pointer (some a)) := by rfl) (hv : rdA F K a = some v := by assumption) : SD Try.prog F K L (.load t x) v := SD.load hT ht hag hx hv
theorem sdLN {t : TypeId} {x : Operand} {a : Addr} {ti : Ty} {cs : List Value} (ht : Θ.lookup t = some ti := by rfl) (hag : aggB ti.k = true := by rfl) (hx : evO L x = some (.pointer (some a)) := by rfl) (hv : rdN F K a ti.size = some cs := by first | rfl | assumption) : SD Try.prog F K L (.load t x) (.agg ⟨cs⟩) := SD.loadN hT ht hag hx hv
theorem sdLG {t : TypeId} {x : Operand} {ti : Ty} {b off n : Nat} {G : Nat → Int} {r : Row} (ht : Θ.lookup t = some ti := by rfl) (hag : aggB ti.k = false := by rfl) (hx : evO L x = some (.pointer (some ⟨b, off, some 0⟩)) := by rfl) (hr : K.lookup b = some r := by rfl) (hcs : r.cs = gI G n := by rfl) (hlt : off < n := by first | omega | (dsimp only; omega)) : SD Try.prog F K L (.load t x) (.int .i64 (G off)) := SD.loadG hT ht hag hx hr hcs hlt
end
theorem LSub.app {a b L : Slots} (ha : LSub a L) (hb : LSub b L) : LSub (a ++ b) L := by
  induction a with
  | nil => exact hb
  | cons x a ih => exact ⟨ha.1, ih ha.2⟩
/-- pieces behind which less may be told -/
def wk : List SI → Bool
  | .code _ :: _ => true
  | .blk _ :: s => wk s
  | _ => false
section
variable {X : Cx} {F F0 : Mem} {L : Slots} {K K0 : Own} {s : List SI} {ops : Array Oper} {o : Oper} {l : List Oper} {b : Nat} {D : List Nat} {p : List (Nat × Bool)} {listed : Array Bool}
theorem J.weakS : ∀ {s : List SI} {L0 : Slots} {K0 : Own}, wk s = true → LSub L0 L → KSub K0 K → J X s F L0 K0 → J X s F L K
  | .code _ :: _, _, _, _, hL, hK, h => WP.weak hL hK h
  | .blk _ :: s, _, _, hs, hL, hK, h => J.weakS (s := s) hs hL hK h
  | .back _ :: _, _, _, hs, _, _, _ => by simp [wk] at hs
  | [], _, _, hs, _, _, _ => by simp [wk] at hs
theorem J.dropF {c : Code} {Y : List (Nat × Row)} (h : J X (.code c :: s) F L K) : J X (.code c :: s) (F.add Y) L K := fun ι a w hF hS => h ι a w hF hS.drop
theorem JL.dropF {Y : List (Nat × Row)} (h : JL X ops l s F L K) : JL X ops l s (F.add Y) L K := fun ι a w hF hS => h ι a w hF hS.drop
theorem J.loop1 {c : Code} {α : Type} (ok : α → Prop) (Lf : α → Slots) (kp : Slots) (Kf : α → Own) (kk : Own) (μ : α → Nat) (x0 : α) (hL : LSub (Lf x0) L) (hk : LSub kp L) (hK : KSub (Kf x0 ++ kk) K) (h0 : ok x0)
    (round : ∀ x L1 K1, L1 = Lf x ++ kp → K1 = Kf x ++ kk → ok x → J X (.code c :: .back (fun F' L' K' => ∃ x', μ x' < μ x ∧ ok x' ∧ F' = F ∧ LSub (Lf x') L' ∧ LSub kp L' ∧ KSub (Kf x' ++ kk) K') :: s) F L1 K1) : J X (.code (.loop c) :: s) F L K :=
  J.loop (α := α) (fun p F' L' K' => ok p ∧ F' = F ∧ LSub (Lf p ++ kp) L' ∧ KSub (Kf p ++ kk) K') (fun p => μ p) (x0) ⟨h0, rfl, hL.app hk, hK⟩ (by
    rintro x F' L' K' ⟨h1, rfl, h2, h3⟩
    refine WP.weak h2 h3 ?_
    intro ι a w hF hS
    refine wp_mono (round x _ _ rfl rfl h1 ι a w hF hS) fun e a' w' hl => ?_
    obtain ⟨ι1, F1, L1, K1, g1, g2, g3, g4⟩ := hl
    refine ⟨ι1, F1, L1, K1, g1, g2, g3, ?_⟩
    cases e with
    | normal =>
      obtain ⟨x', q1, q2, q3, q4, q5, q6⟩ := g4
      exact ⟨x', q1, q2, q3, q4.app q5, q6⟩
    | _ => exact g4)
theorem bk1 {α : Type} {ok : α → Prop} {Lf : α → Slots} {kp : Slots} {Kf : α → Own} {kk : Own} {μ : α → Nat} {m : Nat} (x' : α) (hL : LSub (Lf x') L) (hk : LSub kp L) (hK : KSub (Kf x' ++ kk) K) (hμ : μ x' < m) (hok : ok x') :
    J X (.back (fun F' L' K' => ∃ x', μ x' < m ∧ ok x' ∧ F' = F ∧ LSub (Lf x') L' ∧ LSub kp L' ∧ KSub (Kf x' ++ kk) K') :: s) F L K := ⟨x', hμ, hok, rfl, hL, hk, hK⟩
theorem J.cut1 {c : Code} {α : Type} (ok : α → Prop) (Lf : α → Slots) (kp : Slots) (Kf : α → Own) (kk : Own) (hk0 : LSub kp L) (hK0 : KSub kk K)
    (h : J X (.code c :: .back (fun F' L' K' => ∃ x', ok x' ∧ F' = F ∧ LSub (Lf x') L' ∧ LSub kp L' ∧ KSub (Kf x' ++ kk) K') :: s) F L K)
    (hn : ∀ x L1 K1, L1 = Lf x ++ kp → K1 = Kf x ++ kk → ok x → J X s F L1 K1) (hs : wk s = true := by rfl) : J X (.code c :: s) F L K :=
  J.cut _ h (by
    rintro F' L' K' ⟨x', h1, rfl, h2, h3, h4⟩
    exact J.weakS hs (h2.app h3) h4 (hn x' _ _ rfl rfl h1))
theorem ck1 {α : Type} {ok : α → Prop} {Lf : α → Slots} {kp : Slots} {Kf : α → Own} {kk : Own} (x' : α) (hL : LSub (Lf x') L) (hk : LSub kp L) (hK : KSub (Kf x' ++ kk) K) (hok : ok x') :
    J X (.back (fun F' L' K' => ∃ x', ok x' ∧ F' = F ∧ LSub (Lf x') L' ∧ LSub kp L' ∧ KSub (Kf x' ++ kk) K') :: s) F L K := ⟨x', hok, rfl, hL, hk, hK⟩
theorem J.loop2 {c : Code} {α β : Type} (ok : α → β → Prop) (Lf : α → β → Slots) (kp : Slots) (Kf : α → β → Own) (kk : Own) (μ : α → β → Nat) (x0 : α) (y0 : β) (hL : LSub (Lf x0 y0) L) (hk : LSub kp L) (hK : KSub (Kf x0 y0 ++ kk) K) (h0 : ok x0 y0)
    (round : ∀ x y L1 K1, L1 = Lf x y ++ kp → K1 = Kf x y ++ kk → ok x y → J X (.code c :: .back (fun F' L' K' => ∃ x' y', μ x' y' < μ x y ∧ ok x' y' ∧ F' = F ∧ LSub (Lf x' y') L' ∧ LSub kp L' ∧ KSub (Kf x' y' ++ kk) K') :: s) F L1 K1) : J X (.code (.loop c) :: s) F L K :=
  J.loop (α := α × β) (fun p F' L' K' => ok p.1 p.2 ∧ F' = F ∧ LSub (Lf p.1 p.2 ++ kp) L' ∧ KSub (Kf p.1 p.2 ++ kk) K') (fun p => μ p.1 p.2) (x0, y0) ⟨h0, rfl, hL.app hk, hK⟩ (by
    rintro ⟨x, y⟩ F' L' K' ⟨h1, rfl, h2, h3⟩
    refine WP.weak h2 h3 ?_
    intro ι a w hF hS
    refine wp_mono (round x y _ _ rfl rfl h1 ι a w hF hS) fun e a' w' hl => ?_
    obtain ⟨ι1, F1, L1, K1, g1, g2, g3, g4⟩ := hl
    refine ⟨ι1, F1, L1, K1, g1, g2, g3, ?_⟩
    cases e with
    | normal =>
      obtain ⟨x', y', q1, q2, q3, q4, q5, q6⟩ := g4
      exact ⟨⟨x', y'⟩, q1, q2, q3, q4.app q5, q6⟩
    | _ => exact g4)
theorem bk2 {α β : Type} {ok : α → β → Prop} {Lf : α → β → Slots} {kp : Slots} {Kf : α → β → Own} {kk : Own} {μ : α → β → Nat} {m : Nat} (x' : α) (y' : β) (hL : LSub (Lf x' y') L) (hk : LSub kp L) (hK : KSub (Kf x' y' ++ kk) K) (hμ : μ x' y' < m) (hok : ok x' y') :
    J X (.back (fun F' L' K' => ∃ x' y', μ x' y' < m ∧ ok x' y' ∧ F' = F ∧ LSub (Lf x' y') L' ∧ LSub kp L' ∧ KSub (Kf x' y' ++ kk) K') :: s) F L K := ⟨x', y', hμ, hok, rfl, hL, hk, hK⟩
theorem J.cut2 {c : Code} {α β : Type} (ok : α → β → Prop) (Lf : α → β → Slots) (kp : Slots) (Kf : α → β → Own) (kk : Own) (hk0 : LSub kp L) (hK0 : KSub kk K)
    (h : J X (.code c :: .back (fun F' L' K' => ∃ x' y', ok x' y' ∧ F' = F ∧ LSub (Lf x' y') L' ∧ LSub kp L' ∧ KSub (Kf x' y' ++ kk) K') :: s) F L K)
    (hn : ∀ x y L1 K1, L1 = Lf x y ++ kp → K1 = Kf x y ++ kk → ok x y → J X s F L1 K1) (hs : wk s = true := by rfl) : J X (.code c :: s) F L K :=
  J.cut _ h (by
    rintro F' L' K' ⟨x', y', h1, rfl, h2, h3, h4⟩
    exact J.weakS hs (h2.app h3) h4 (hn x' y' _ _ rfl rfl h1))
theorem ck2 {α β : Type} {ok : α → β → Prop} {Lf : α → β → Slots} {kp : Slots} {Kf : α → β → Own} {kk : Own} (x' : α) (y' : β) (hL : LSub (Lf x' y') L) (hk : LSub kp L) (hK : KSub (Kf x' y' ++ kk) K) (hok : ok x' y') :
    J X (.back (fun F' L' K' => ∃ x' y', ok x' y' ∧ F' = F ∧ LSub (Lf x' y') L' ∧ LSub kp L' ∧ KSub (Kf x' y' ++ kk) K') :: s) F L K := ⟨x', y', hok, rfl, hL, hk, hK⟩
theorem J.loop3 {c : Code} {α β γ : Type} (ok : α → β → γ → Prop) (Lf : α → β → γ → Slots) (kp : Slots) (Kf : α → β → γ → Own) (kk : Own) (μ : α → β → γ → Nat) (x0 : α) (y0 : β) (z0 : γ) (hL : LSub (Lf x0 y0 z0) L) (hk : LSub kp L) (hK : KSub (Kf x0 y0 z0 ++ kk) K) (h0 : ok x0 y0 z0)
    (round : ∀ x y z L1 K1, L1 = Lf x y z ++ kp → K1 = Kf x y z ++ kk → ok x y z → J X (.code c :: .back (fun F' L' K' => ∃ x' y' z', μ x' y' z' < μ x y z ∧ ok x' y' z' ∧ F' = F ∧ LSub (Lf x' y' z') L' ∧ LSub kp L' ∧ KSub (Kf x' y' z' ++ kk) K') :: s) F L1 K1) : J X (.code (.loop c) :: s) F L K :=
  J.loop (α := α × β × γ) (fun p F' L' K' => ok p.1 p.2.1 p.2.2 ∧ F' = F ∧ LSub (Lf p.1 p.2.1 p.2.2 ++ kp) L' ∧ KSub (Kf p.1 p.2.1 p.2.2 ++ kk) K') (fun p => μ p.1 p.2.1 p.2.2) (x0, y0, z0) ⟨h0, rfl, hL.app hk, hK⟩ (by
    rintro ⟨x, y, z⟩ F' L' K' ⟨h1, rfl, h2, h3⟩
    refine WP.weak h2 h3 ?_
    intro ι a w hF hS
    refine wp_mono (round x y z _ _ rfl rfl h1 ι a w hF hS) fun e a' w' hl => ?_
    obtain ⟨ι1, F1, L1, K1, g1, g2, g3, g4⟩ := hl
    refine ⟨ι1, F1, L1, K1, g1, g2, g3, ?_⟩
    cases e with
    | normal =>
      obtain ⟨x', y', z', q1, q2, q3, q4, q5, q6⟩ := g4
      exact ⟨⟨x', y', z'⟩, q1, q2, q3, q4.app q5, q6⟩
    | _ => exact g4)
theorem bk3 {α β γ : Type} {ok : α → β → γ → Prop} {Lf : α → β → γ → Slots} {kp : Slots} {Kf : α → β → γ → Own} {kk : Own} {μ : α → β → γ → Nat} {m : Nat} (x' : α) (y' : β) (z' : γ) (hL : LSub (Lf x' y' z') L) (hk : LSub kp L) (hK : KSub (Kf x' y' z' ++ kk) K) (hμ : μ x' y' z' < m) (hok : ok x' y' z') :
    J X (.back (fun F' L' K' => ∃ x' y' z', μ x' y' z' < m ∧ ok x' y' z' ∧ F' = F ∧ LSub (Lf x' y' z') L' ∧ LSub kp L' ∧ KSub (Kf x' y' z' ++ kk) K') :: s) F L K := ⟨x', y', z', hμ, hok, rfl, hL, hk, hK⟩
theorem J.cut3 {c : Code} {α β γ : Type} (ok : α → β → γ → Prop) (Lf : α → β → γ → Slots) (kp : Slots) (Kf : α → β → γ → Own) (kk : Own) (hk0 : LSub kp L) (hK0 : KSub kk K)
    (h : J X (.code c :: .back (fun F' L' K' => ∃ x' y' z', ok x' y' z' ∧ F' = F ∧ LSub (Lf x' y' z') L' ∧ LSub kp L' ∧ KSub (Kf x' y' z' ++ kk) K') :: s) F L K)
    (hn : ∀ x y z L1 K1, L1 = Lf x y z ++ kp → K1 = Kf x y z ++ kk → ok x y z → J X s F L1 K1) (hs : wk s = true := by rfl) : J X (.code c :: s) F L K :=
  J.cut _ h (by
    rintro F' L' K' ⟨x', y', z', h1, rfl, h2, h3, h4⟩
    exact J.weakS hs (h2.app h3) h4 (hn x' y' z' _ _ rfl rfl h1))
theorem ck3 {α β γ : Type} {ok : α → β → γ → Prop} {Lf : α → β → γ → Slots} {kp : Slots} {Kf : α → β → γ → Own} {kk : Own} (x' : α) (y' : β) (z' : γ) (hL : LSub (Lf x' y' z') L) (hk : LSub kp L) (hK : KSub (Kf x' y' z' ++ kk) K) (hok : ok x' y' z') :
    J X (.back (fun F' L' K' => ∃ x' y' z', ok x' y' z' ∧ F' = F ∧ LSub (Lf x' y' z') L' ∧ LSub kp L' ∧ KSub (Kf x' y' z' ++ kk) K') :: s) F L K := ⟨x', y', z', hok, rfl, hL, hk, hK⟩
theorem J.loop4 {c : Code} {α β γ δ : Type} (ok : α → β → γ → δ → Prop) (Lf : α → β → γ → δ → Slots) (kp : Slots) (Kf : α → β → γ → δ → Own) (kk : Own) (μ : α → β → γ → δ → Nat) (x0 : α) (y0 : β) (z0 : γ) (u0 : δ) (hL : LSub (Lf x0 y0 z0 u0) L) (hk : LSub kp L) (hK : KSub (Kf x0 y0 z0 u0 ++ kk) K) (h0 : ok x0 y0 z0 u0)
    (round : ∀ x y z u L1 K1, L1 = Lf x y z u ++ kp → K1 = Kf x y z u ++ kk → ok x y z u → J X (.code c :: .back (fun F' L' K' => ∃ x' y' z' u', μ x' y' z' u' < μ x y z u ∧ ok x' y' z' u' ∧ F' = F ∧ LSub (Lf x' y' z' u') L' ∧ LSub kp L' ∧ KSub (Kf x' y' z' u' ++ kk) K') :: s) F L1 K1) : J X (.code (.loop c) :: s) F L K :=
  J.loop (α := α × β × γ × δ) (fun p F' L' K' => ok p.1 p.2.1 p.2.2.1 p.2.2.2 ∧ F' = F ∧ LSub (Lf p.1 p.2.1 p.2.2.1 p.2.2.2 ++ kp) L' ∧ KSub (Kf p.1 p.2.1 p.2.2.1 p.2.2.2 ++ kk) K') (fun p => μ p.1 p.2.1 p.2.2.1 p.2.2.2) (x0, y0, z0, u0) ⟨h0, rfl, hL.app hk, hK⟩ (by
    rintro ⟨x, y, z, u⟩ F' L' K' ⟨h1, rfl, h2, h3⟩
    refine WP.weak h2 h3 ?_
    intro ι a w hF hS
    refine wp_mono (round x y z u _ _ rfl rfl h1 ι a w hF hS) fun e a' w' hl => ?_
    obtain ⟨ι1, F1, L1, K1, g1, g2, g3, g4⟩ := hl
    refine ⟨ι1, F1, L1, K1, g1, g2, g3, ?_⟩
    cases e with
    | normal =>
      obtain ⟨x', y', z', u', q1, q2, q3, q4, q5, q6⟩ := g4
      exact ⟨⟨x', y', z', u'⟩, q1, q2, q3, q4.app q5, q6⟩
    | _ => exact g4)
theorem bk4 {α β γ δ : Type} {ok : α → β → γ → δ → Prop} {Lf : α → β → γ → δ → Slots} {kp : Slots} {Kf : α → β → γ → δ → Own} {kk : Own} {μ : α → β → γ → δ → Nat} {m : Nat} (x' : α) (y' : β) (z' : γ) (u' : δ) (hL : LSub (Lf x' y' z' u') L) (hk : LSub kp L) (hK : KSub (Kf x' y' z' u' ++ kk) K) (hμ : μ x' y' z' u' < m) (hok : ok x' y' z' u') :
    J X (.back (fun F' L' K' => ∃ x' y' z' u', μ x' y' z' u' < m ∧ ok x' y' z' u' ∧ F' = F ∧ LSub (Lf x' y' z' u') L' ∧ LSub kp L' ∧ KSub (Kf x' y' z' u' ++ kk) K') :: s) F L K := ⟨x', y', z', u', hμ, hok, rfl, hL, hk, hK⟩
theorem J.loop5 {c : Code} {α β γ δ ε : Type} (ok : α → β → γ → δ → ε → Prop) (Lf : α → β → γ → δ → ε → Slots) (kp : Slots) (Kf : α → β → γ → δ → ε → Own) (kk : Own) (μ : α → β → γ → δ → ε → Nat) (x0 : α) (y0 : β) (z0 : γ) (u0 : δ) (t0 : ε) (hL : LSub (Lf x0 y0 z0 u0 t0) L) (hk : LSub kp L) (hK : KSub (Kf x0 y0 z0 u0 t0 ++ kk) K) (h0 : ok x0 y0 z0 u0 t0)
    (round : ∀ x y z u t L1 K1, L1 = Lf x y z u t ++ kp → K1 = Kf x y z u t ++ kk → ok x y z u t → J X (.code c :: .back (fun F' L' K' => ∃ x' y' z' u' t', μ x' y' z' u' t' < μ x y z u t ∧ ok x' y' z' u' t' ∧ F' = F ∧ LSub (Lf x' y' z' u' t') L' ∧ LSub kp L' ∧ KSub (Kf x' y' z' u' t' ++ kk) K') :: s) F L1 K1) : J X (.code (.loop c) :: s) F L K :=
  J.loop (α := α × β × γ × δ × ε) (fun p F' L' K' => ok p.1 p.2.1 p.2.2.1 p.2.2.2.1 p.2.2.2.2 ∧ F' = F ∧ LSub (Lf p.1 p.2.1 p.2.2.1 p.2.2.2.1 p.2.2.2.2 ++ kp) L' ∧ KSub (Kf p.1 p.2.1 p.2.2.1 p.2.2.2.1 p.2.2.2.2 ++ kk) K') (fun p => μ p.1 p.2.1 p.2.2.1 p.2.2.2.1 p.2.2.2.2) (x0, y0, z0, u0, t0) ⟨h0, rfl, hL.app hk, hK⟩ (by
    rintro ⟨x, y, z, u, t⟩ F' L' K' ⟨h1, rfl, h2, h3⟩
    refine WP.weak h2 h3 ?_
    intro ι a w hF hS
    refine wp_mono (round x y z u t _ _ rfl rfl h1 ι a w hF hS) fun e a' w' hl => ?_
    obtain ⟨ι1, F1, L1, K1, g1, g2, g3, g4⟩ := hl
    refine ⟨ι1, F1, L1, K1, g1, g2, g3, ?_⟩
    cases e with
    | normal =>
      obtain ⟨x', y', z', u', t', q1, q2, q3, q4, q5, q6⟩ := g4
      exact ⟨⟨x', y', z', u', t'⟩, q1, q2, q3, q4.app q5, q6⟩
    | _ => exact g4)
theorem bk5 {α β γ δ ε : Type} {ok : α → β → γ → δ → ε → Prop} {Lf : α → β → γ → δ → ε → Slots} {kp : Slots} {Kf : α → β → γ → δ → ε → Own} {kk : Own} {μ : α → β → γ → δ → ε → Nat} {m : Nat} (x' : α) (y' : β) (z' : γ) (u' : δ) (t' : ε) (hL : LSub (Lf x' y' z' u' t') L) (hk : LSub kp L) (hK : KSub (Kf x' y' z' u' t' ++ kk) K) (hμ : μ x' y' z' u' t' < m) (hok : ok x' y' z' u' t') :
    J X (.back (fun F' L' K' => ∃ x' y' z' u' t', μ x' y' z' u' t' < m ∧ ok x' y' z' u' t' ∧ F' = F ∧ LSub (Lf x' y' z' u' t') L' ∧ LSub kp L' ∧ KSub (Kf x' y' z' u' t' ++ kk) K') :: s) F L K := ⟨x', y', z', u', t', hμ, hok, rfl, hL, hk, hK⟩
theorem clC {f d : Nat} {args : Array Operand} {ts : Array TypeId} {vs : List Value} {Q : Value → List (Nat × Row) → Prop}
    (hk : ∀ v Y, Q v Y → (∀ κ, rV κ v = v) → (∀ x ∈ Y, ∀ u ∈ x.2.cs, plain1 u = true) → New F Y → JL X ops l s (F.add Y) ((d, v) :: L) K)
    (hg : o.guard = none := by rfl) (ho : o.op = .call ⟨.value (.func f), args, ts⟩ := by rfl) (hd : o.dst = some d := by rfl) (hN : d < X.N := by exact Nat.le_of_ble_eq_true rfl) (hargs : mapE (evO L) args.toList = some vs := by rfl) (hfn : fnOk X.P f = true := by kernel_rfl) (h : ∀ ι, Val ι K F → F.le (push ι K F) → C X.P f (vs.map (rV ι)) (push ι K F) Q) : JL X ops (o :: l) s F L K :=
  JL.callC hg ho hd hN hargs hfn h hk
theorem dclC {i f d : Nat} {o : Oper} {args : Array Operand} {ts : Array TypeId} {vs : List Value} {Q : Value → List (Nat × Row) → Prop}
    (hk : ∀ v Y, Q v Y → (∀ κ, rV κ v = v) → (∀ x ∈ Y, ∀ u ∈ x.2.cs, plain1 u = true) → New F Y → JD X l b F0 K0 D p (listed.setIfInBounds i true) s (F.add Y) ((d, v) :: L) K)
    (hkp : Kept b F0 K0 (listed.setIfInBounds i true) F K := by first | exact Kept.same | exact Kept.all) (ho : l[i]? = some o := by rfl) (hg : o.guard = none := by rfl) (hop : o.op = .call ⟨.value (.func f), args, ts⟩ := by rfl) (hd : o.dst = some d := by rfl) (hN : d < X.N := by exact Nat.le_of_ble_eq_true rfl) (hargs : mapE (evO L) args.toList = some vs := by rfl) (hfn : fnOk X.P f = true := by kernel_rfl) (hi9 : i < 5000 := by exact Nat.le_of_ble_eq_true rfl) (h : ∀ ι, Val ι K F → F.le (push ι K F) → C X.P f (vs.map (rV ι)) (push ι K F) Q) : JD X l b F0 K0 D ((i, false) :: p) listed s F L K :=
  JD.callC_ hi9 ho (fun ι a _ => by simp [Region.wanted, hg]) hop hd hN hargs hfn hkp h hk
theorem Kept.k0 (h : KSub K0 K := by repeat' first | exact trivial | refine And.intro rfl ?_) : Kept b F K0 listed F K := .inr ⟨h, [], rfl⟩
theorem Kept.kY {Y : List (Nat × Row)} (h : KSub K0 K := by repeat' first | exact trivial | refine And.intro rfl ?_) : Kept b F K0 listed (F.add Y) K := .inr ⟨h, Y, rfl⟩
end
/-- rows that can be read -/
def Rd (G : Mem) (Y : List (Nat × Row)) : Prop := ∀ x ∈ Y, ∀ (o : Nat) (u : Value), x.2.cs[o]? = some u → look G ⟨x.1, o, none⟩ = some u
theorem Rd.gI {G : Mem} {Y : List (Nat × Row)} (h : Rd G Y) {b n i : Nat} {ι : Nat → Nat} {W : Nat → Int} (hm : (b, (rI W n).r ι) ∈ Y) (hi : i < n) : look G ⟨b, i, none⟩ = some (.int .i64 (W i)) := by
  refine h _ hm i _ ?_
  simp only [Row.r, rI, List.getElem?_map, gI_get hi, Option.map_some]
  rfl
section
variable {F : Mem} {L : Slots} {K : Own} {s : List SI}
/-- the end: all of the call's own rows are left -/
theorem outX.all {Q : Value → List (Nat × Row) → Prop} {v : Value} (h : ∀ ι, Val ι K F → Q (rV ι v) (K.map fun x => (ι x.1, x.2.r ι))) : outX F Q v F K :=
  ⟨[], rfl, fun x hx => by simp at hx, fun ι hv => ⟨K.map fun x => (ι x.1, x.2.r ι), fun x hx => by simpa using hx, by
    have := (List.nodup_append.1 hv.nodup).1
    simpa [List.map_map, Function.comp_def] using this, h ι hv⟩⟩
theorem rtX {Θ : Tab} {rs : List ResultVar} {Q : Value → List (Nat × Row) → Prop} {v : Value} {P : Program} {N : Nat} {D : List Nat} (h : ∀ ι, Val ι K F → Q (rV ι v) (K.map fun x => (ι x.1, x.2.r ι))) (hr : resV Θ F L K rs = some v := by rfl) : J ⟨P, N, D, retR Θ rs (outX F Q)⟩ (.code .ret :: s) F L K := J.ret ⟨v, hr, outX.all h⟩
end
theorem sem_goto {X : Cx} (h : ∀ c F L K, ¬ X.R (.goto c) F L K) {c : Nat} {F : Mem} {L : Slots} {K : Own} : ∀ {s : List SI}, ¬ sem X s (.goto c) F L K
  | [] => h c F L K
  | .code _ :: s => sem_goto h (s := s)
  | .blk _ :: s => sem_goto h (s := s)
  | .back _ :: s => sem_goto h (s := s)
/-- a scope of labels that nothing jumps to -/
theorem sc {X : Cx} {F : Mem} {L : Slots} {K : Own} {s : List SI} {c : Code} (h : J X (.code c :: s) F L K) (hR : ∀ c F L K, ¬ X.R (.goto c) F L K := by intro _ _ _ _ h; exact h) : J X (.code (.scope c) :: s) F L K := by
  intro ι a w hF hS
  refine wp_scope_straight (wp_mono (h ι a w hF hS) fun e a' w' hl => ?_)
  cases e with
  | goto l =>
    obtain ⟨ι1, F1, L1, K1, h1, h2, h3, h4⟩ := hl
    exact absurd h4 (sem_goto hR)
  | _ => exact hl
end Go.Proofs.Ytnkddjdmpnghmaa.Am
namespace Go.Proofs.Ytnkddjdmpnghmaa.Am
set_option linter.unusedSimpArgs false
set_option linter.unusedVariables false
open Go Go.RowKit
theorem rowcK {F : Mem} {ι : Nat → Nat} {K : Own} {w : World} {t u b : Nat} {r : Row} (h : St F ι ((t, r) :: K) w) (hu : ntK u K = true) {x : Nat × Row} (hx : x ∈ K) : x.1 ≠ u ∧ x.2.c (upd ι u b) = x.2.c ι := by
  have := List.all_eq_true.1 hu x hx
  simp only [Bool.and_eq_true, Bool.or_eq_true, bne_iff_ne, ne_eq] at this
  refine ⟨this.1, ?_⟩
  rcases this.2 with hf | hf
  · exact Row.c_flat _ _ ((h.own x (List.mem_cons_of_mem _ hx)).2.2 hf)
  · exact Row.c_nt (fun v hv => upd_ne ι hv) hf
theorem LSub.cons {Lk L : Slots} {d : Nat} {v : Value} (h : LSub Lk L) (hd : (Lk.all fun x => x.1 != d) = true) : LSub ((d, v) :: Lk) ((d, v) :: L) := by
  refine ⟨by simp [List.lookup_cons], LSub.of_all fun x hx => ?_⟩
  have h1 := List.all_eq_true.1 hd x hx
  have h2 : (x.1 == d) = false := by simpa [bne] using h1
  rw [List.lookup_cons, h2]
  exact h.all_of x hx
theorem KSub.cons {Kk K : Own} {u : Nat} {r : Row} (h : KSub Kk K) (hd : (Kk.all fun x => x.1 != u) = true) : KSub ((u, r) :: Kk) ((u, r) :: K) := by
  refine ⟨by simp [List.lookup_cons], by simpa using hd, KSub.of_all h.tags fun x hx => ?_⟩
  have h1 := List.all_eq_true.1 hd x hx
  have h2 : (x.1 == u) = false := by simpa [bne] using h1
  rw [List.lookup_cons, h2]
  exact h.mem x hx
theorem lookup_del {K : Own} {a u : Nat} (h : a ≠ u) : (delK u K).lookup a = K.lookup a := by
  induction K with
  | nil => rfl
  | cons x K ih =>
    obtain ⟨b, r⟩ := x
    unfold delK at ih ⊢
    by_cases hb : b = u
    · subst hb
      have h2 : (a == b) = false := by simpa using h
      rw [List.filter_cons_of_neg (by simp), List.lookup_cons, h2]
      exact ih
    · rw [List.filter_cons_of_pos (by simpa using hb), List.lookup_cons, List.lookup_cons, ih]
theorem KSub.del {Kk K : Own} {u : Nat} (h : KSub Kk K) (hd : (Kk.all fun x => x.1 != u) = true) : KSub Kk (delK u K) := by
  refine KSub.of_all h.tags fun x hx => ?_
  have h1 := List.all_eq_true.1 hd x hx
  rw [lookup_del (by simpa using h1)]
  exact h.mem x hx
theorem ntK_ne {t : Nat} {K : Own} (h : ntK t K = true) : (K.all fun x => x.1 != t) = true := by
  rw [List.all_eq_true]
  intro x hx
  have := List.all_eq_true.1 h x hx
  simp only [Bool.and_eq_true] at this
  exact this.1
theorem St.retag {F : Mem} {ι : Nat → Nat} {K : Own} {w : World} {t u : Nat} {r : Row} (h : St F ι ((t, r) :: K) w) (hu : ntK u K = true) (hr : (r.flat || r.cs.all (nt1 u)) = true) : St F (upd ι u (ι t)) ((u, r) :: K) w := by
  have hmap : (K.map fun x => upd ι u (ι t) x.1) = K.map fun x => ι x.1 := List.map_congr_left fun x hx => upd_ne ι (rowcK h hu hx (b := 0)).1
  have hrow : r.c (upd ι u (ι t)) = r.c ι := by
    simp only [Bool.or_eq_true] at hr
    rcases hr with hf | hf
    · exact Row.c_flat _ _ ((h.own _ List.mem_cons_self).2.2 hf)
    · exact Row.c_nt (fun v hv => upd_ne ι hv) hf
  refine ⟨h.below, ?_, fun x hx => ?_, h.ext⟩
  · have := h.nodup
    simpa only [List.map_cons, hmap, upd_eq] using this
  · rcases List.mem_cons.1 hx with rfl | hx
    · have := h.own _ List.mem_cons_self
      simp only [upd_eq, hrow]
      exact this
    · obtain ⟨h1, h2⟩ := rowcK h hu hx (b := ι t)
      have := h.own x (List.mem_cons_of_mem _ hx)
      rw [upd_ne ι h1, h2]; exact this
section
variable {X : Cx} {F : Mem} {L : Slots} {K : Own} {s : List SI} {ops : Array Oper} {o : Oper} {l : List Oper}
theorem JL.retag {d t u n c : Nat} {r : Row} {Lk : Slots} {Kk : Own} (hL : ntL u Lk = true) (hK : ntK u Kk = true) (hr : (r.flat || r.cs.all (nt1 u)) = true) (hD : X.D.contains u = false)
    (h : JL X ops l s F ((d, .slice (some ⟨u, 0, some 0⟩) n c) :: Lk) ((u, r) :: Kk)) : JL X ops l s F ((d, .slice (some ⟨t, 0, some 0⟩) n c) :: Lk) ((t, r) :: Kk) := by
  intro ι a w hF hS
  have hagree : ∀ v ∈ X.D, upd ι u (ι t) v = ι v := fun v hv => upd_ne ι (fun e => by subst e; simp at hD; exact hD hv)
  refine JL.tr hagree (h (upd ι u (ι t)) a w ?_ (hS.retag hK hr))
  refine ⟨hF.size, hF.defers, fun s v hv => ?_⟩
  rw [List.lookup_cons] at hv
  split at hv
  · rename_i e
    have e1 : s = d := by simpa using e
    subst e1
    simp only [Option.some.injEq] at hv
    subst hv
    have := hF.slot s (.slice (some ⟨t, 0, some 0⟩) n c) (by simp [List.lookup_cons])
    simpa [upd_eq] using this
  · rename_i e
    have h1 := hF.slot s v (by rw [List.lookup_cons, e]; exact hv)
    rw [cV_nt (fun v hv => upd_ne ι hv) (List.all_eq_true.1 hL _ (lookup_mem hv))]
    exact h1
/-- a literal slice -/
theorem sl {Θ : Tab} {ty el : TypeId} {parts : Array (Nat × Operand)} {d n : Nat} {ti tj : Ty} {ps : List (Nat × List Value)} {cs : List Value} (hk : JL X ops l s F ((d, .slice (some ⟨d, 0, some 0⟩) n n) :: L) ((d, { elem := el, cs := cs, room := n * tj.size, flat := false }) :: K))
    (hg : o.guard = none := by rfl) (ho : o.op = .buildSlice ty n parts := by rfl) (hd : o.dst = some d := by rfl) (hN : d < X.N := by exact Nat.le_of_ble_eq_true rfl) (hθ : tabOk X.P Θ = true := by exact hT) (hi : Θ.lookup ty = some ti := by rfl) (hki : ti.k = .slice el := by rfl) (hj : Θ.lookup el = some tj := by rfl)
    (hp : partsL (evO L) parts.toList = some ps := by rfl) (h1 : ps.all (fun q => q.2.all (·.oneCell')) = true := by rfl) (hf : fillL (fun i => some (i * tj.size, tj.size)) (zer tj n) ps = some cs := by rfl) (hs : n * tj.size ≤ 16777216 := by exact Nat.le_of_ble_eq_true rfl) (hz0 : tj.zero.length = tj.size := by rfl) (hz1 : 0 < tj.size := by exact Nat.le_of_ble_eq_true rfl)
    (hL : ntL d L = true := by rfl) (hK : ntK d K = true := by rfl) (hD : X.D.contains d = false := by rfl) : JL X ops (o :: l) s F L K :=
  JL.step hg (Go1.slit hθ ho hd hN hi hki hj hp h1 hf hs hz0 hz1 hL hK hD hk)
/-- append to nothing -/
theorem apN {Θ : Tab} {ty ty' el : TypeId} {sx x : Operand} {d m : Nat} {ti ti' tj : Ty} {xv : Value} {news : List Value} (u : Nat) (fl : Bool) (Lk : Slots) (Kk : Own)
    (hk : ∀ cap, m ≤ cap → cap ≤ 9223372036854775807 → JL X ops l s F ((d, .slice (some ⟨u, 0, some 0⟩) m cap) :: Lk) ((u, { elem := el, cs := news, room := cap * tj.size, flat := fl }) :: Kk))
    (hg : o.guard = none := by rfl) (ho : o.op = .call ⟨.builtin .append, #[sx, x], #[ty, ty']⟩ := by rfl) (hd : o.dst = some d := by rfl) (hN : d < X.N := by exact Nat.le_of_ble_eq_true rfl) (hθ : tabOk X.P Θ = true := by exact hT)
    (hi : Θ.lookup ty = some ti := by rfl) (hki : ti.k = .slice el := by rfl) (hi' : Θ.lookup ty' = some ti' := by rfl) (hk' : slB ti'.k = true := by rfl) (hj : Θ.lookup el = some tj := by rfl) (hz0 : tj.zero.length = tj.size := by rfl) (hz1 : 0 < tj.size := by exact Nat.le_of_ble_eq_true rfl)
    (hs : evO L sx = some (.slice none 0 0) := by rfl) (hx : evO L x = some xv := by rfl) (happ : App X.P F K tj.size xv m news := by exact App.slice rfl (by simp [Value.oneCell']; done) rfl) (hLk : LSub Lk L := by repeat' first | exact trivial | refine And.intro rfl ?_) (hKk : KSub Kk K := by repeat' first | exact trivial | refine And.intro rfl ?_)
    (hm : 0 < m := by first | exact Nat.le_of_ble_eq_true rfl | omega) (h63 : m ≤ 9223372036854775807 := by first | exact Nat.le_of_ble_eq_true rfl | omega) (hby : m * tj.bytes ≤ 140737488355328 := by first | exact Nat.le_of_ble_eq_true rfl | (dsimp only; omega))
    (hflat : fl = true → news.all plain1 = true := by intro _; rfl) (hL : ntL u L = true := by rfl) (hK : ntK u K = true := by rfl) (hnn : news.all (nt1 u) = true := by rfl) (hD : X.D.contains u = false := by rfl) (hdk : (Lk.all fun x => x.1 != d) = true := by rfl) (hKu : ntK u Kk = true := by rfl) : JL X ops (o :: l) s F L K := by
  refine JL.step hg (Go1.append (t := u) (n := 0) (c := 0) (olds := []) (K0 := K) (fz := false) (fl := fl) hθ ho hd hN hi hki hi' hk' hj hz0 hz1 hs hx happ hm (.inl ⟨rfl, rfl, rfl, rfl, rfl⟩) (by simp) hflat (by omega) (by simpa using hby) hL hK hnn hD ?_)
  intro cap h1 h2
  simp only [Nat.zero_add, List.nil_append] at h1 ⊢
  exact JL.weak (hLk.cons hdk) (hKk.cons (ntK_ne hKu)) (hk cap h1 h2)
/-- append to one of the call's own rows, of the tag u; t is a tag that nothing has -/
theorem apO {Θ : Tab} {ty ty' el : TypeId} {sx x : Operand} {d m n c : Nat} {ti ti' tj : Ty} {xv : Value} {news : List Value} {r : Row} (t u : Nat) (Lk : Slots) (Kk : Own)
    (hk : ∀ cap, n + m ≤ cap → cap ≤ 9223372036854775807 → JL X ops l s F ((d, .slice (some ⟨u, 0, some 0⟩) (n + m) cap) :: Lk) ((u, { elem := el, cs := r.cs ++ news, room := cap * tj.size, fz := r.fz, flat := r.flat }) :: Kk))
    (hg : o.guard = none := by rfl) (ho : o.op = .call ⟨.builtin .append, #[sx, x], #[ty, ty']⟩ := by rfl) (hd : o.dst = some d := by rfl) (hN : d < X.N := by exact Nat.le_of_ble_eq_true rfl) (hθ : tabOk X.P Θ = true := by exact hT)
    (hi : Θ.lookup ty = some ti := by rfl) (hki : ti.k = .slice el := by rfl) (hi' : Θ.lookup ty' = some ti' := by rfl) (hk' : slB ti'.k = true := by rfl) (hj : Θ.lookup el = some tj := by rfl) (hz0 : tj.zero.length = tj.size := by rfl) (hz1 : 0 < tj.size := by exact Nat.le_of_ble_eq_true rfl)
    (hs : evO L sx = some (.slice (some ⟨u, 0, some 0⟩) n c) := by rfl) (hx : evO L x = some xv := by rfl) (hr : K.lookup u = some r := by rfl) (happ : App X.P F K tj.size xv m news := by exact App.slice rfl (by simp [Value.oneCell']; done) rfl) (hLk : LSub Lk L := by repeat' first | exact trivial | refine And.intro rfl ?_) (hKk : KSub Kk K := by repeat' first | exact trivial | refine And.intro rfl ?_)
    (hroom : r.room = c * tj.size := by rfl) (hel : r.elem = el := by rfl) (hol : r.cs.length = n * tj.size := by first | rfl | (dsimp only; omega) | (simp; done) | (simp; omega)) (hnc : n ≤ c := by omega) (hcm : c ≤ 9223372036854775807 := by omega)
    (hm : 0 < m := by first | exact Nat.le_of_ble_eq_true rfl | omega) (h63 : n + m ≤ 9223372036854775807 := by omega) (hby : (n + m) * tj.bytes ≤ 140737488355328 := by (dsimp only; omega))
    (hflat : r.flat = true → news.all plain1 = true := by intro _; rfl) (hL : ntL t L = true := by rfl) (hK : ntK t K = true := by rfl) (hnn : news.all (nt1 t) = true := by rfl) (hD : X.D.contains t = false := by rfl) (hDu : X.D.contains u = false := by rfl) (hdk : (Lk.all fun x => x.1 != d) = true := by rfl) (hKu : ntK u Kk = true := by rfl) (hKt : ntK t Kk = true := by rfl) (hLu : ntL u Lk = true := by rfl)
    (hru : (r.flat || (r.cs ++ news).all (nt1 u)) = true := by rfl) : JL X ops (o :: l) s F L K := by
  refine JL.step hg (Go1.append (t := t) (n := n) (c := c) (olds := r.cs) (K0 := delK u K) (fz := r.fz) (fl := r.flat) hθ ho hd hN hi hki hi' hk' hj hz0 hz1 hs hx happ hm (.inr ⟨u, r, rfl, hr, rfl, hroom, hel, hnc, hcm, rfl, id, id⟩) hol hflat h63 hby hL hK hnn hD ?_)
  intro cap h1 h2
  exact JL.weak (hLk.cons hdk) ((hKk.del (ntK_ne hKu)).cons (ntK_ne hKt)) (JL.retag hLu hKu hru hDu (hk cap h1 h2))
end
def apV (t : Nat) (o : Option Nat) (n : Nat) : Value := match o with
  | none => .slice none 0 0
  | some c => .slice (some ⟨t, 0, some 0⟩) n c
def apR (t : Nat) (el : TypeId) (sz : Nat) (fl : Bool) (o : Option Nat) (cs : List Value) : Own := match o with
  | none => []
  | some c => [(t, { elem := el, cs := cs, room := c * sz, fz := false, flat := fl })]
/-- what is known of such a list's room -/
def apB (o : Option Nat) (n : Nat) : Prop := match o with
  | none => n = 0
  | some c => n ≤ c ∧ c ≤ 9223372036854775807
def ivs (xs : List Int) : List Value := xs.map (.int .i64 ·)
theorem ivs_length (xs : List Int) : (ivs xs).length = xs.length := by simp [ivs]
theorem ivs_append (xs ys : List Int) : ivs (xs ++ ys) = ivs xs ++ ivs ys := by simp [ivs]
theorem ivs_r (ι : Nat → Nat) (xs : List Int) : (ivs xs).map (r1 ι) = ivs xs := by
  unfold ivs
  rw [List.map_map]
  exact List.map_congr_left fun b _ => rfl
theorem ivs_get {xs : List Int} {i : Nat} {x : Int} (h : xs[i]? = some x) : (ivs xs)[i]? = some (.int .i64 x) := by simp [ivs, h]
theorem ivs_snoc (xs : List Int) (x : Int) : ivs xs ++ [.int .i64 x] = ivs (xs ++ [x]) := by simp [ivs]
theorem Rd.ivs {G : Mem} {Y : List (Nat × Row)} (h : Rd G Y) {b c : Nat} {ι : Nat → Nat} {r : Row} {xs : List Int} (hm : (b, r.r ι) ∈ Y) (hcs : r.cs = Am.ivs xs) (hl : xs.length ≤ 9223372036854775807) : RInts G (.slice (some ⟨b, 0, none⟩) xs.length c) xs := by
  refine .inl ⟨b, 0, c, rfl, hl, fun i x hx => ?_⟩
  rw [Nat.zero_add]
  refine h _ hm i _ ?_
  simp only [Row.r, hcs, ivs_r]
  exact ivs_get hx
theorem zer_gIn {ti : Ty} {s : Nat} (h : ti.zero = List.replicate s (.int .i64 0)) (n : Nat) : zer ti n = gI (fun _ => 0) (n * s) := by
  unfold zer
  rw [h]
  apply List.ext_getElem?
  intro i
  by_cases hi : i < n * s
  · rw [gI_get hi, flat_get _ _ _ (by simpa using hi)]
    have h0 : 0 < s := by rcases Nat.eq_zero_or_pos s with h | h; · subst h; simp at hi
                          · exact h
    simp [List.getElem?_replicate, Nat.mod_lt _ h0]
  · rw [List.getElem?_eq_none (by simp; omega), List.getElem?_eq_none (by simp [gI_length]; omega)]
end Go.Proofs.Ytnkddjdmpnghmaa.Am
namespace Go.Proofs.Ytnkddjdmpnghmaa.Am
set_option linter.unusedSimpArgs false
set_option linter.unusedVariables false
open Go Go.RowKit
theorem wrapu (n : Int) : IntKind.u64.wrap n = n % 18446744073709551616 := by simp [IntKind.wrap, IntKind.bits, IntKind.signed]
theorem wraps_u64 (n : Int) (h0 : 0 ≤ n) (h1 : n < 2 ^ 64) : IntKind.u64.wrap n = n := by rw [wrapu]; omega
theorem u64_and32 (x : Int) (h0 : 0 ≤ x) (h1 : x < 18446744073709551616) : Go.bits .and .u64 x 4294967295 = x % 4294967296 := bits_mask .u64 64 (by decide) wraps_u64 32 (by decide) x h0 (by omega)
theorem mul_bd {x y : Int} (hx0 : 0 ≤ x) (hx : x ≤ 4294967295) (hy0 : 0 ≤ y) (hy : y ≤ 4294967295) : 0 ≤ x * y ∧ x * y ≤ 18446744065119617025 := by
  constructor
  · exact Int.mul_nonneg hx0 hy0
  · have := Int.mul_le_mul hx hy hy0 (by omega : (0 : Int) ≤ 4294967295)
    omega
theorem split_mul (a b : Int) : a * b = (a / 4294967296) * (b / 4294967296) * 18446744073709551616 + ((a / 4294967296) * (b % 4294967296) + (a % 4294967296) * (b / 4294967296)) * 4294967296 + (a % 4294967296) * (b % 4294967296) := by
  have ha : a = (a / 4294967296) * 4294967296 + a % 4294967296 := by omega
  have hb : b = (b / 4294967296) * 4294967296 + b % 4294967296 := by omega
  generalize a / 4294967296 = a1 at *
  generalize a % 4294967296 = a0 at *
  generalize b / 4294967296 = b1 at *
  generalize b % 4294967296 = b0 at *
  subst ha hb
  grind
theorem mul_hi_lo (p11 p10 p01 p00 ab : Int) (h : ab = p11 * 18446744073709551616 + (p10 + p01) * 4294967296 + p00)
    (a0 : 0 ≤ p11) (a1 : p11 ≤ 18446744065119617025) (b0 : 0 ≤ p10) (b1 : p10 ≤ 18446744065119617025) (c0 : 0 ≤ p01) (c1 : p01 ≤ 18446744065119617025) (d0 : 0 ≤ p00) (d1 : p00 ≤ 18446744065119617025) (hab : ab < 340282366920938463463374607431768211456) :
    (p11 + (p10 + p00 / 4294967296) / 4294967296 + ((p10 + p00 / 4294967296) % 4294967296 + p01) / 4294967296) = ab / 18446744073709551616 ∧
    ((p10 + p00 / 4294967296) % 4294967296 + p01) % 4294967296 * 4294967296 + p00 % 4294967296 = ab % 18446744073709551616 := by
  subst h
  constructor <;> omega
theorem mul_lt_sq {a b : Int} (ha0 : 0 ≤ a) (ha : a < 18446744073709551616) (hb0 : 0 ≤ b) (hb : b < 18446744073709551616) : 0 ≤ a * b ∧ a * b < 340282366920938463463374607431768211456 := by
  constructor
  · exact Int.mul_nonneg ha0 hb0
  · have := Int.mul_le_mul (show a ≤ 18446744073709551615 by omega) (show b ≤ 18446744073709551615 by omega) hb0 (by omega)
    omega
section
variable {F : Mem} {K : Own} {L : Slots}
theorem suA {t t' : TypeId} {x y : Operand} {a b : Int} (hx : evO L x = some (.int .u64 a) := by rfl) (hy : evO L y = some (.int .u64 b) := by rfl) (h0 : 0 ≤ a + b := by omega) (h1 : a + b < 18446744073709551616 := by omega) : SD Try.prog F K L (.binOp .add t x y t') (.int .u64 (a + b)) :=
  (O (by simp [dOp, dBin, hx, hy, IntKind.wrap_i64, wraps_u64 _ h0 h1] : dOp Θ (evO L) (.binOp .add t x y t') = some (.int .u64 (a + b))))
theorem suS {t t' : TypeId} {x y : Operand} {a b : Int} (hx : evO L x = some (.int .u64 a) := by rfl) (hy : evO L y = some (.int .u64 b) := by rfl) (h0 : 0 ≤ a - b := by omega) (h1 : a - b < 18446744073709551616 := by omega) : SD Try.prog F K L (.binOp .sub t x y t') (.int .u64 (a - b)) :=
  (O (by simp [dOp, dBin, hx, hy, wraps_u64 _ h0 h1] : dOp Θ (evO L) (.binOp .sub t x y t') = some (.int .u64 (a - b))))
theorem suM {t t' : TypeId} {x y : Operand} {a b : Int} (hx : evO L x = some (.int .u64 a) := by rfl) (hy : evO L y = some (.int .u64 b) := by rfl) (h0 : 0 ≤ a * b := by omega) (h1 : a * b < 18446744073709551616 := by omega) : SD Try.prog F K L (.binOp .mul t x y t') (.int .u64 (a * b)) :=
  (O (by simp [dOp, dBin, hx, hy, wraps_u64 _ h0 h1] : dOp Θ (evO L) (.binOp .mul t x y t') = some (.int .u64 (a * b))))
theorem sbAnd {t t' : TypeId} {x y : Operand} {k : IntKind} {a b v : Int} (h : Go.bits .and k a b = v) (hx : evO L x = some (.int k a) := by rfl) (hy : evO L y = some (.int k b) := by rfl) : SD Try.prog F K L (.binOp .and t x y t') (.int k v) := by
  subst h
  exact O (by simp [dOp, dBin, hx, hy, Go.bits])
theorem sbOr {t t' : TypeId} {x y : Operand} {k : IntKind} {a b v : Int} (h : Go.bits .or k a b = v) (hx : evO L x = some (.int k a) := by rfl) (hy : evO L y = some (.int k b) := by rfl) : SD Try.prog F K L (.binOp .or t x y t') (.int k v) := by
  subst h
  exact O (by simp [dOp, dBin, hx, hy, Go.bits])
theorem suAnd32 {t t' : TypeId} {x y : Operand} {a : Int} (hx : evO L x = some (.int .u64 a) := by rfl) (hy : evO L y = some (.int .u64 4294967295) := by rfl) (h0 : 0 ≤ a := by omega) (h1 : a < 18446744073709551616 := by omega) : SD Try.prog F K L (.binOp .and t x y t') (.int .u64 (a % 4294967296)) := sbAnd (u64_and32 a h0 h1) hx hy
/-- shifts by so many places -/
theorem suShr {t t' : TypeId} {x y : Operand} {k j : IntKind} {a b v : Int} (n : Nat) (hv : a / 2 ^ n = v) (hx : evO L x = some (.int k a) := by rfl) (hy : evO L y = some (.int j b) := by rfl) (hb : b = n := by first | rfl | omega) (hn : n ≤ k.bits := by decide) : SD Try.prog F K L (.binOp .shr t x y t') (.int k v) := by
  subst hb hv
  have := SD.shrK (P := Try.prog) (F := F) (K := K) (t := t) (t' := t') hx hy (by omega)
  rw [show min ((n : Int)).toNat k.bits = n from by simp; omega, Int.fdiv_eq_ediv_of_nonneg _ (Int.le_of_lt (Int.pow_pos (by decide)))] at this
  exact this
theorem suShl {t t' : TypeId} {x y : Operand} {j : IntKind} {a b v : Int} (n : Nat) (hv : a * 2 ^ n % 18446744073709551616 = v) (hx : evO L x = some (.int .u64 a) := by rfl) (hy : evO L y = some (.int j b) := by rfl) (hb : b = n := by first | rfl | omega) (hn : n ≤ 64 := by decide) : SD Try.prog F K L (.binOp .shl t x y t') (.int .u64 v) := by
  subst hb hv
  have := SD.shlK (P := Try.prog) (F := F) (K := K) (t := t) (t' := t') hx hy (by omega)
  rw [show min ((n : Int)).toNat (IntKind.bits .u64) = n from by simp [IntKind.bits]; omega, wrapu] at this
  exact this
theorem suShr32 {t t' : TypeId} {x y : Operand} {j : IntKind} {a : Int} (hx : evO L x = some (.int .u64 a) := by rfl) (hy : evO L y = some (.int j 32) := by rfl) : SD Try.prog F K L (.binOp .shr t x y t') (.int .u64 (a / 4294967296)) := suShr 32 rfl hx hy
/-- an int as another kind that holds it -/
theorem suC {s d : TypeId} {x : Operand} {i j : Ty} {k k' : IntKind} {a : Int} (hi : Θ.lookup s = some i := by rfl) (hj : Θ.lookup d = some j := by rfl) (hk : i.k = .int k := by rfl) (hk' : j.k = .int k' := by rfl) (hx : evO L x = some (.int k a) := by rfl) (hw : k'.wrap a = a := by first | exact wraps_u64 _ (by omega) (by omega) | exact wrap_i64 (by omega) (by omega)) : SD Try.prog F K L (.convert s d x) (.int k' a) := by
  refine O ?_
  simp [dOp, hi, hj, hx, hk, hk', dConv, hw]
end
section
variable {F : Mem} {K : Own} {L : Slots}
theorem und_bool {t : TypeId} {ti : Ty} (ht : Θ.lookup t = some ti) (hk : ti.k = .bool) : Try.prog.underlying t = some .bool := by
  obtain ⟨d, hd, hkd⟩ := (tab_ty hT ht).und
  rw [hk] at hkd
  cases d <;> first | exact hd | (simp [kindB] at hkd; done)
theorem sbNe {t t' : TypeId} {x y : Operand} {ti : Ty} {a b : Bool} (ht : Θ.lookup t = some ti := by rfl) (hk : ti.k = .bool := by rfl) (hx : evO L x = some (.bool a) := by rfl) (hy : evO L y = some (.bool b) := by rfl) : SD Try.prog F K L (.binOp .neq t x y t') (.bool (a != b)) := by
  intro ι ρ he o' ho w _
  obtain ⟨dst, op, type, pos, after, guard⟩ := o'
  simp only at ho
  subst ho
  simp [execOp, he _ _ hx, he _ _ hy, binOp, eqGuard, bne, run_equal_bool w t a b (und_bool ht hk)]
end
def i64ok (x : Int) : Prop := -9223372036854775808 ≤ x ∧ x ≤ 9223372036854775807
def amt (x : Int) : Int := if x < 0 then -x else x
theorem amt_bd {x : Int} (h : i64ok x) : 0 ≤ amt x ∧ amt x ≤ 9223372036854775808 := by unfold amt; unfold i64ok at h; split <;> omega
theorem mul_amt (a b : Int) : amt a * amt b = if (decide (a < 0) != decide (b < 0)) = true then -(a * b) else a * b := by
  unfold amt
  by_cases ha : a < 0 <;> by_cases hb : b < 0 <;> simp [ha, hb, Int.neg_mul, Int.mul_neg]
theorem prod_lt {a b : Int} (ha : i64ok a) (hb : i64ok b) : 0 ≤ amt a * amt b ∧ amt a * amt b ≤ 85070591730234615865843651857942052864 := by
  have h1 := amt_bd ha; have h2 := amt_bd hb
  constructor
  · exact Int.mul_nonneg h1.1 h2.1
  · have := Int.mul_le_mul h1.2 h2.2 h2.1 (by omega)
    omega
def keepS (x : Int) : Int × Bool := if -1099511627776 ≤ x ∧ x ≤ 1099511627776 then (x, true) else (0, false)
/-- the quotient, rounded down, if it is in -/
def floorS (a b c : Int) : Int × Bool := if c < 1 then (0, false) else keepS (a * b / c)
end Go.Proofs.Ytnkddjdmpnghmaa.Am
namespace Go.Proofs.Ytnkddjdmpnghmaa.Am
set_option linter.unusedSimpArgs false
set_option linter.unusedVariables false
open Go Go.RowKit
def ltab : ByteArray := ⟨#[0, 1, 2, 2, 3, 3, 3, 3, 4, 4, 4, 4, 4, 4, 4, 4, 5, 5, 5, 5, 5, 5, 5, 5, 5, 5, 5, 5, 5, 5, 5, 5, 6, 6, 6, 6, 6, 6, 6, 6, 6, 6, 6, 6, 6, 6, 6, 6, 6, 6, 6, 6, 6, 6, 6, 6, 6, 6, 6, 6, 6, 6, 6, 6, 7, 7, 7, 7, 7, 7, 7, 7, 7, 7, 7, 7, 7, 7, 7, 7, 7, 7, 7, 7, 7, 7, 7, 7, 7, 7, 7, 7, 7, 7, 7, 7, 7, 7, 7, 7, 7, 7, 7, 7, 7, 7, 7, 7, 7, 7, 7, 7, 7, 7, 7, 7, 7, 7, 7, 7, 7, 7, 7, 7, 7, 7, 7, 7, 8, 8, 8, 8, 8, 8, 8, 8, 8, 8, 8, 8, 8, 8, 8, 8, 8, 8, 8, 8, 8, 8, 8, 8, 8, 8, 8, 8, 8, 8, 8, 8, 8, 8, 8, 8, 8, 8, 8, 8, 8, 8, 8, 8, 8, 8, 8, 8, 8, 8, 8, 8, 8, 8, 8, 8, 8, 8, 8, 8, 8, 8, 8, 8, 8, 8, 8, 8, 8, 8, 8, 8, 8, 8, 8, 8, 8, 8, 8, 8, 8, 8, 8, 8, 8, 8, 8, 8, 8, 8, 8, 8, 8, 8, 8, 8, 8, 8, 8, 8, 8, 8, 8, 8, 8, 8, 8, 8, 8, 8, 8, 8, 8, 8, 8, 8, 8, 8, 8, 8, 8, 8, 8, 8, 8, 8, 8, 8]⟩
theorem ltab_pow : ∀ n : Fin 256, 0 < n.val → 0 < byteAt ltab n.val ∧ byteAt ltab n.val ≤ 8 ∧ n.val < 2 ^ (byteAt ltab n.val).toNat ∧ 2 ^ ((byteAt ltab n.val).toNat - 1) ≤ n.val := by decide +kernel
theorem ltab_int (x : Int) (h0 : 0 < x) (h1 : x < 256) : 0 < byteAt ltab x.toNat ∧ byteAt ltab x.toNat ≤ 8 ∧ x < 2 ^ (byteAt ltab x.toNat).toNat ∧ 2 ^ ((byteAt ltab x.toNat).toNat - 1) ≤ x := by
  obtain ⟨n, rfl⟩ := Int.eq_ofNat_of_zero_le (Int.le_of_lt h0)
  have h := ltab_pow ⟨n, by omega⟩ (by simpa using h0)
  rw [Int.toNat_natCast]
  refine ⟨h.1, h.2.1, ?_, ?_⟩
  · exact_mod_cast h.2.2.1
  · exact_mod_cast h.2.2.2
def IsLen (x L : Int) : Prop := 0 < L ∧ x < 2 ^ L.toNat ∧ 2 ^ (L.toNat - 1) ≤ x
theorem isLen_up {x L : Int} (c : Nat) (h : IsLen (x / 2 ^ c) L) : IsLen x (L + c) := by
  obtain ⟨h0, h1, h2⟩ := h
  have hp : (0 : Int) < 2 ^ c := Int.pow_pos (by decide)
  have e1 : (L + c).toNat = L.toNat + c := by omega
  have e2 : (L + c).toNat - 1 = (L.toNat - 1) + c := by omega
  refine ⟨by omega, ?_, ?_⟩
  · rw [e1, Int.pow_add]
    exact (Int.ediv_lt_iff_lt_mul hp).1 h1
  · rw [e2, Int.pow_add]
    exact (Int.le_ediv_iff_mul_le hp).1 h2
theorem isLen_tab {x : Int} (h0 : 0 < x) (h1 : x < 256) : IsLen x (byteAt ltab x.toNat) := by
  have h := ltab_int x h0 h1
  exact ⟨h.1, h.2.2.1, h.2.2.2⟩
theorem dig_hi {u yn1 yn0 un1 q rh Y : Int} (hY : Y = yn1 * 4294967296 + yn0) (hp : 0 < Y) (hq : q * yn1 + rh = u) (h : 4294967296 * rh + un1 < q * yn0) : (u * 4294967296 + un1) / Y < q := by
  rw [Int.ediv_lt_iff_lt_mul hp, hY]
  have e : q * (yn1 * 4294967296 + yn0) = (q * yn1) * 4294967296 + q * yn0 := by grind
  rw [e]; omega
theorem dig_lo {u yn1 yn0 un1 q rh Y : Int} (hY : Y = yn1 * 4294967296 + yn0) (hp : 0 < Y) (hq : q * yn1 + rh = u) (h : q * yn0 ≤ 4294967296 * rh + un1) : q ≤ (u * 4294967296 + un1) / Y := by
  rw [Int.le_ediv_iff_mul_le hp, hY]
  have e : q * (yn1 * 4294967296 + yn0) = (q * yn1) * 4294967296 + q * yn0 := by grind
  rw [e]; omega
theorem dig_lt {u un1 Y : Int} (hp : 0 < Y) (hu : u < Y) (h1 : un1 < 4294967296) : (u * 4294967296 + un1) / Y < 4294967296 := by
  rw [Int.ediv_lt_iff_lt_mul hp]
  have : (u + 1) * 4294967296 ≤ Y * 4294967296 := Int.mul_le_mul_of_nonneg_right (by omega) (by omega)
  have e : (u + 1) * 4294967296 = u * 4294967296 + 4294967296 := by grind
  rw [e] at this
  rw [Int.mul_comm 4294967296 Y]
  omega
theorem dig_guess {u yn1 yn0 Y : Int} (hY : Y = yn1 * 4294967296 + yn0) (h1 : 2147483648 ≤ yn1) (h0 : yn0 < 4294967296) (hu : u < Y) : u / yn1 ≤ 4294967297 := by
  have : u / yn1 < 4294967298 := by
    rw [Int.ediv_lt_iff_lt_mul (by omega)]
    omega
  omega
theorem mulq_bd {q y : Int} (hq0 : 0 ≤ q) (hq : q ≤ 4294967297) (hy0 : 0 ≤ y) (hy : y < 4294967296) : 0 ≤ q * y ∧ q * y ≤ 18446744073709551615 := by
  constructor
  · exact Int.mul_nonneg hq0 hy0
  · have := Int.mul_le_mul hq (show y ≤ 4294967295 by omega) hy0 (by omega : (0 : Int) ≤ 4294967297)
    omega
theorem dig_nonneg {u un1 Y : Int} (hp : 0 < Y) (hu0 : 0 ≤ u) (h1 : 0 ≤ un1) : 0 ≤ (u * 4294967296 + un1) / Y := Int.ediv_nonneg (by omega) (by omega)
theorem shift_parts {hi lo : Int} {s : Nat} (h0 : 0 ≤ lo) (h1 : lo < 18446744073709551616) (hs : s ≤ 63) :
    (hi * 18446744073709551616 + lo) * 2 ^ s = ((hi * 2 ^ s + lo / 2 ^ (64 - s)) * 4294967296 + lo * 2 ^ s % 18446744073709551616 / 4294967296) * 4294967296 + lo * 2 ^ s % 18446744073709551616 % 4294967296 := by
  have hw : (18446744073709551616 : Int) = 2 ^ (64 - s) * 2 ^ s := by
    rw [← Int.pow_add, show 64 - s + s = 64 from by omega]; rfl
  have e1 : lo * 2 ^ s / 18446744073709551616 = lo / 2 ^ (64 - s) := by
    rw [hw]
    exact Int.mul_ediv_mul_of_pos_left _ _ (Int.pow_pos (by decide))
  have e2 := Int.mul_ediv_add_emod (lo * 2 ^ s) 18446744073709551616
  rw [e1] at e2
  have e3 : (hi * 18446744073709551616 + lo) * 2 ^ s = hi * 2 ^ s * 18446744073709551616 + lo * 2 ^ s := by grind
  rw [e3]
  generalize hi * 2 ^ s = H at *
  generalize lo * 2 ^ s = L at *
  generalize lo / 2 ^ (64 - s) = K at *
  omega
theorem shr_low {lo : Int} {s : Nat} (h0 : 0 ≤ lo) (h1 : lo < 18446744073709551616) (hs : s ≤ 63) : 0 ≤ lo / 2 ^ (64 - s) ∧ lo / 2 ^ (64 - s) < 2 ^ s := by
  constructor
  · exact Int.ediv_nonneg h0 (Int.le_of_lt (Int.pow_pos (by decide)))
  · rw [Int.ediv_lt_iff_lt_mul (Int.pow_pos (by decide)), ← Int.pow_add, show s + (64 - s) = 64 from by omega]; omega
theorem pow_le63 {s : Nat} (hs : s ≤ 63) : (1 : Int) ≤ 2 ^ s ∧ (2 : Int) ^ s ≤ 9223372036854775808 := by
  have h1 : (2 : Nat) ^ s ≤ 9223372036854775808 := Nat.le_trans (Nat.pow_le_pow_right (by decide) hs) (by decide)
  have h2 : 1 ≤ (2 : Nat) ^ s := Nat.one_le_two_pow
  have h3 : (((2 : Nat) ^ s : Nat) : Int) = (2 : Int) ^ s := by rw [Int.natCast_pow]; rfl
  rw [← h3]
  generalize (2 : Nat) ^ s = n at *
  omega
theorem two_digits {U n1 n0 Y : Int} (hp : 0 < Y) : (U * 4294967296 + n1) / Y * 4294967296 + ((U * 4294967296 + n1) % Y * 4294967296 + n0) / Y = ((U * 4294967296 + n1) * 4294967296 + n0) / Y ∧ ((U * 4294967296 + n1) % Y * 4294967296 + n0) % Y = ((U * 4294967296 + n1) * 4294967296 + n0) % Y := by
  have hd := Int.mul_ediv_add_emod (U * 4294967296 + n1) Y
  generalize (U * 4294967296 + n1) / Y = q at *
  generalize (U * 4294967296 + n1) % Y = r at *
  have e : (U * 4294967296 + n1) * 4294967296 + n0 = (r * 4294967296 + n0) + q * 4294967296 * Y := by rw [← hd]; grind
  rw [e]
  constructor
  · rw [Int.add_mul_ediv_right _ _ (by omega)]; omega
  · rw [Int.add_mul_emod_self_right]
theorem big_q {P c : Int} (hc : 1 ≤ c) (h : P / 18446744073709551616 ≥ c) : 18446744073709551616 ≤ P / c := by
  rw [Int.le_ediv_iff_mul_le (by omega)]
  have := Int.mul_le_mul_of_nonneg_left h (show (0 : Int) ≤ 18446744073709551616 by omega)
  omega
section
variable {F : Mem} {K : Own} {L : Slots}
theorem suQ {t t' : TypeId} {x y : Operand} {a b : Int} (hx : evO L x = some (.int .u64 a) := by rfl) (hy : evO L y = some (.int .u64 b) := by rfl) (h0 : 0 ≤ a := by omega) (h1 : a < 18446744073709551616 := by omega) (h2 : 0 < b := by omega) : SD Try.prog F K L (.binOp .quo t x y t') (.int .u64 (a / b)) := by
  intro ι ρ he o' ho w _
  obtain ⟨dst, op, type, pos, after, guard⟩ := o'
  simp only at ho
  subst ho
  have e1 : IntKind.u64.wrap (a.tdiv b) = a / b := by
    rw [Int.tdiv_eq_ediv_of_nonneg h0]
    have g1 := Int.ediv_nonneg h0 (Int.le_of_lt h2)
    have g2 := Int.ediv_le_self b h0
    exact wraps_u64 _ g1 (by omega)
  have hb0 : b ≠ 0 := by omega
  simp [execOp, he _ _ hx, he _ _ hy, binOp, eqGuard, Op.intDiv, hb0, e1]
theorem suR {t t' : TypeId} {x y : Operand} {a b : Int} (hx : evO L x = some (.int .u64 a) := by rfl) (hy : evO L y = some (.int .u64 b) := by rfl) (h0 : 0 ≤ a := by omega) (h2 : 0 < b := by omega) : SD Try.prog F K L (.binOp .rem t x y t') (.int .u64 (a % b)) := by
  intro ι ρ he o' ho w _
  obtain ⟨dst, op, type, pos, after, guard⟩ := o'
  simp only at ho
  subst ho
  have hb0 : b ≠ 0 := by omega
  simp [execOp, he _ _ hx, he _ _ hy, binOp, eqGuard, Op.intDiv, hb0, Int.tmod_eq_emod_of_nonneg h0]
end
theorem u64_orJ (s : Nat) (x y : Int) (h0 : 0 ≤ x) (hm : x % 2 ^ s = 0) (h1 : x < 18446744073709551616) (g0 : 0 ≤ y) (g1 : y < 2 ^ s) (h2 : x + y < 18446744073709551616) : Go.bits .or .u64 x y = x + y :=
  bits_join .u64 64 (by decide) wraps_u64 s _ _ h0 hm (by omega) g0 g1 (by omega)
/-- the guess is not below the digit -/
theorem dig_top {U n Y : Int} (hY : Y = Y / 4294967296 * 4294967296 + Y % 4294967296) (h1 : 2147483648 ≤ Y / 4294967296) (h0 : 0 ≤ Y % 4294967296) (hU : 0 ≤ U) (hn : n < 4294967296) : (U * 4294967296 + n) / Y ≤ U / (Y / 4294967296) := by
  have hmr := Int.mul_ediv_add_emod U (Y / 4294967296)
  have hmr1 := Int.emod_lt_of_pos U (show 0 < Y / 4294967296 by omega)
  have hq0 := Int.ediv_nonneg hU (show 0 ≤ Y / 4294967296 by omega)
  rw [← Int.lt_add_one_iff, Int.ediv_lt_iff_lt_mul (by omega)]
  generalize U / (Y / 4294967296) = q at *
  generalize U % (Y / 4294967296) = rr at *
  have e : (q + 1) * Y = ((Y / 4294967296) * q + Y / 4294967296) * 4294967296 + (q + 1) * (Y % 4294967296) := by
    have e3 : (q + 1) * Y = (q + 1) * (Y / 4294967296 * 4294967296 + Y % 4294967296) := by rw [← hY]
    rw [e3]; grind
  have h9 : 0 ≤ (q + 1) * (Y % 4294967296) := Int.mul_nonneg (by omega) (by omega)
  rw [e]; omega
end Go.Proofs.Ytnkddjdmpnghmaa.Am
namespace Go.Proofs.Ytnkddjdmpnghmaa.Am
set_option linter.unusedSimpArgs false
set_option linter.unusedVariables false
set_option maxRecDepth 100000
set_option maxHeartbeats 4000000
open Go Go.RowKit
theorem neg_div {P c : Int} (hc : 0 < c) : -P / c = if P % c = 0 then -(P / c) else -(P / c) - 1 := by
  have hd := Int.mul_ediv_add_emod P c
  have h0 := Int.emod_nonneg P (by omega : c ≠ 0)
  have h1 := Int.emod_lt_of_pos P hc
  generalize P / c = q at *
  generalize P % c = r at *
  subst hd
  split
  · rename_i h
    subst h
    rw [show -(c * q + 0) = -q * c from by grind, Int.mul_ediv_cancel _ (by omega)]
  · rw [show -(c * q + r) = (c - r) + (-q - 1) * c from by grind, Int.add_mul_ediv_right _ _ (by omega), Int.ediv_eq_zero_of_lt (by omega) (by omega)]
    omega
theorem ab_of (a b : Int) : a * b = if (decide (a < 0) != decide (b < 0)) = true then -(amt a * amt b) else amt a * amt b := by
  rw [mul_amt]
  split <;> simp
theorem keepS_out {x : Int} (h : ¬ (-1099511627776 ≤ x ∧ x ≤ 1099511627776)) : keepS x = (0, false) := by unfold keepS; rw [if_neg h]
end Go.Proofs.Ytnkddjdmpnghmaa.Am
namespace Go.Proofs.Ytnkddjdmpnghmaa.Am
set_option linter.unusedSimpArgs false
set_option linter.unusedVariables false
set_option maxRecDepth 100000
set_option maxHeartbeats 4000000
open Go Go.RowKit
theorem fIn_C (F : Mem) (x : Int) : C0 Try.prog 60 [.int .i64 x] F (.bool (decide (-1099511627776 ≤ x ∧ x ≤ 1099511627776))) := by
  refine C.go hT Try.func60 Try.ntmps60 ?_
  refine sq ?_
  refine rg ?_
  refine st (h := O) ?_
  refine nl ?_
  refine sq ?_
  refine rg ?_
  iterate 3 (refine st (h := O) ?_)
  refine gD (fun g5 => ?_) (fun g5 => ?_)
  ·refine sg (h := O) ?_
   refine sg (h := O) ?_
   iterate 2 (refine st (h := O) ?_)
   refine nl ?_
   refine rt ⟨?_, rfl⟩
   simp only [Value.bool.injEq, eq_comm (a := false), decide_eq_true_eq, decide_eq_false_iff_not, decide_eq_decide]; omega
  ·refine sp ?_
   refine sp ?_
   iterate 2 (refine st (h := O) ?_)
   refine nl ?_
   refine rt ⟨?_, rfl⟩
   simp only [Value.bool.injEq, eq_comm (a := false), decide_eq_true_eq, decide_eq_false_iff_not, decide_eq_decide]; omega
def keptS (x : Int) (ok : Bool) : Int × Bool := if ok = true then keepS x else (0, false)
theorem kept_C (F : Mem) (x : Int) (ok : Bool) : C0 Try.prog 73 [.int .i64 x, .bool ok] F (.tuple #[.int .i64 (keptS x ok).1, .bool (keptS x ok).2]) := by
  refine C.go hT Try.func73 Try.ntmps73 ?_
  refine sq ?_
  refine rg ?_
  iterate 2 (refine st (h := O) ?_)
  refine nl ?_
  iterate 2 (refine sq ?_)
  refine rg ?_
  iterate 3 (refine st (h := O) ?_)
  refine gB (fun g8 => ?_) (fun g8 => ?_)
  ·refine sp ?_
   iterate 2 (refine sp ?_)
   refine st (h := O) ?_
   refine nl ?_
   refine cT ?_
   refine sq ?_
   refine rg ?_
   iterate 2 (refine st (h := O) ?_)
   refine nl ?_
   have h : ok = false := by simpa using g8
   subst h
   exact rt ⟨rfl, rfl⟩
  ·have h : ok = true := by simpa using g8
   subst h
   refine sg (h := O) ?_
   refine clg (h := by exact fun ι hV hl => fIn_C _ _) ?_
   refine sg (h := O) ?_
   refine st (h := O) ?_
   refine nl ?_
   refine cB (fun c0 => ?_) (fun c0 => ?_)
   ·refine sq ?_
    refine rg ?_
    iterate 2 (refine st (h := O) ?_)
    refine nl ?_
    have h : ¬ (-1099511627776 ≤ x ∧ x ≤ 1099511627776) := of_decide_eq_false (by simpa only [Bool.not_eq_true'] using c0)
    exact rt ⟨by rw [keptS, if_pos rfl, keepS, if_neg h], rfl⟩
   ·have h : (-1099511627776 ≤ x ∧ x ≤ 1099511627776) := of_decide_eq_true (by simpa only [Bool.not_eq_false'] using c0)
    refine sk ?_
    refine sq ?_
    refine rg ?_
    iterate 3 (refine st (h := O) ?_)
    refine nl ?_
    exact rt ⟨by rw [keptS, if_pos rfl, keepS, if_pos h], rfl⟩
theorem amount_C (F : Mem) (x : Int) (hx : i64ok x) : C0 Try.prog 79 [.int .i64 x] F (.int .u64 (amt x)) := by
  unfold i64ok at hx
  refine C.go hT Try.func79 Try.ntmps79 ?_
  refine sq ?_
  refine rg ?_
  refine st (h := O) ?_
  refine nl ?_
  iterate 2 (refine sq ?_)
  refine rg ?_
  iterate 2 (refine st (h := O) ?_)
  refine nl ?_
  refine cD (fun c0 => ?_) (fun c0 => ?_)
  ·refine sq ?_
   refine rg ?_
   iterate 4 (refine st (h := O) ?_)
   refine nl ?_
   refine rt ⟨?_, rfl⟩
   rw [amt, if_pos c0]
   simp only [wrapu]
   rw [show (0 - x % 18446744073709551616) % 18446744073709551616 = -x from by omega]
  ·refine sk ?_
   refine sq ?_
   refine rg ?_
   iterate 3 (refine st (h := O) ?_)
   refine nl ?_
   refine rt ⟨?_, rfl⟩
   rw [amt, if_neg c0]
   simp only [wrapu]
   rw [show x % 18446744073709551616 = x from by omega]
def sgnD (m : Int) (b : Bool) : Int := if b = true then IntKind.i64.wrap (0 - IntKind.i64.wrap m) else IntKind.i64.wrap m
theorem sgnD_in {m : Int} (h0 : 0 ≤ m) (h1 : m < 9223372036854775808) (b : Bool) : sgnD m b = if b = true then -m else m := by
  unfold sgnD
  rw [wrap_i64 (x := m) (by omega) (by omega), wrap_i64 (x := 0 - m) (by omega) (by omega)]
  split <;> omega
theorem signed_C (F : Mem) (m : Int) (b : Bool) : C0 Try.prog 75 [.int .u64 m, .bool b] F (.int .i64 (sgnD m b)) := by
  refine C.go hT Try.func75 Try.ntmps75 ?_
  refine sq ?_
  refine rg ?_
  refine st (h := O) ?_
  refine nl ?_
  iterate 2 (refine sq ?_)
  refine rg ?_
  refine st (h := O) ?_
  refine nl ?_
  refine cB (fun c0 => ?_) (fun c0 => ?_)
  ·refine sq ?_
   refine rg ?_
   iterate 4 (refine st (h := O) ?_)
   refine nl ?_
   exact rt ⟨by rw [sgnD, if_pos c0], rfl⟩
  ·refine sk ?_
   refine sq ?_
   refine rg ?_
   iterate 3 (refine st (h := O) ?_)
   refine nl ?_
   exact rt ⟨by rw [sgnD, if_neg (by rw [c0]; decide)], rfl⟩
theorem Mul64_C (F : Mem) (a b : Int) (ha0 : 0 ≤ a) (ha : a < 18446744073709551616) (hb0 : 0 ≤ b) (hb : b < 18446744073709551616) : C0 Try.prog 78 [.int .u64 a, .int .u64 b] F (.tuple #[.int .u64 (a * b / 18446744073709551616), .int .u64 (a * b % 18446744073709551616)]) := by
  have p11 := mul_bd (x := a / 4294967296) (y := b / 4294967296) (by omega) (by omega) (by omega) (by omega)
  have p10 := mul_bd (x := a / 4294967296) (y := b % 4294967296) (by omega) (by omega) (by omega) (by omega)
  have p01 := mul_bd (x := a % 4294967296) (y := b / 4294967296) (by omega) (by omega) (by omega) (by omega)
  have p00 := mul_bd (x := a % 4294967296) (y := b % 4294967296) (by omega) (by omega) (by omega) (by omega)
  have hs := split_mul a b
  have hm := mul_hi_lo _ _ _ _ _ hs p11.1 p11.2 p10.1 p10.2 p01.1 p01.2 p00.1 p00.2 (mul_lt_sq ha0 ha hb0 hb).2
  rw [← hm.1]
  clear hm
  have hq : a * b < 340282366920938463463374607431768211456 := (mul_lt_sq ha0 ha hb0 hb).2
  refine C.go hT Try.func78 Try.ntmps78 ?_
  refine sq ?_
  refine rg ?_
  iterate 2 (refine st (h := O) ?_)
  refine nl ?_
  refine sq ?_
  refine rg ?_
  refine st (h := O) ?_
  refine st (h := suAnd32) ?_
  refine st (h := O) ?_
  refine nl ?_
  refine sq ?_
  refine rg ?_
  refine st (h := O) ?_
  refine st (h := suShr32) ?_
  refine st (h := O) ?_
  refine nl ?_
  refine sq ?_
  refine rg ?_
  refine st (h := O) ?_
  refine st (h := suAnd32) ?_
  refine st (h := O) ?_
  refine nl ?_
  refine sq ?_
  refine rg ?_
  refine st (h := O) ?_
  refine st (h := suShr32) ?_
  refine st (h := O) ?_
  refine nl ?_
  refine sq ?_
  refine rg ?_
  iterate 2 (refine st (h := O) ?_)
  refine st (h := suM) ?_
  refine st (h := O) ?_
  refine nl ?_
  refine sq ?_
  refine rg ?_
  iterate 2 (refine st (h := O) ?_)
  refine st (h := suM) ?_
  refine st (h := O) ?_
  refine st (h := suShr32) ?_
  refine st (h := suA) ?_
  refine st (h := O) ?_
  refine nl ?_
  refine sq ?_
  refine rg ?_
  refine st (h := O) ?_
  refine st (h := suAnd32) ?_
  refine st (h := O) ?_
  refine nl ?_
  refine sq ?_
  refine rg ?_
  refine st (h := O) ?_
  refine st (h := suShr32) ?_
  refine st (h := O) ?_
  refine nl ?_
  refine sq ?_
  refine rg ?_
  iterate 3 (refine st (h := O) ?_)
  refine st (h := suM) ?_
  refine st (h := suA) ?_
  refine st (h := O) ?_
  refine nl ?_
  refine sq ?_
  refine rg ?_
  iterate 2 (refine st (h := O) ?_)
  refine st (h := suM) ?_
  refine st (h := O) ?_
  refine st (h := suA) ?_
  refine st (h := O) ?_
  refine st (h := suShr32) ?_
  refine st (h := suA) ?_
  refine st (h := O) ?_
  refine nl ?_
  refine sq ?_
  refine rg ?_
  iterate 4 (refine st (h := O) ?_)
  refine nl ?_
  refine rt ⟨?_, rfl⟩
  simp only [wrapu]
def len1 (y c : Int) : Int := if y ≥ 256 then c + 8 + byteAt ltab (y / 2 ^ 8).toNat else c + byteAt ltab y.toNat
def len2 (y c : Int) : Int := if y ≥ 65536 then len1 (y / 2 ^ 16) (c + 16) else len1 y c
def lenD (x : Int) : Int := if x ≥ 4294967296 then len2 (x / 2 ^ 32) 32 else len2 x 0
theorem len1_is {y c : Int} (h0 : 0 < y) (h1 : y < 65536) (hc : 0 ≤ c) : ∃ L, len1 y c = c + L ∧ IsLen y L ∧ L ≤ 16 := by
  unfold len1
  split
  · exact ⟨byteAt ltab (y / 2 ^ 8).toNat + 8, by omega, isLen_up 8 (isLen_tab (by omega) (by omega)), by have := (ltab_int (y / 2 ^ 8) (by omega) (by omega)).2.1; omega⟩
  · exact ⟨byteAt ltab y.toNat, rfl, isLen_tab (by omega) (by omega), by have := (ltab_int y (by omega) (by omega)).2.1; omega⟩
theorem len2_is {y c : Int} (h0 : 0 < y) (h1 : y < 4294967296) (hc : 0 ≤ c) : ∃ L, len2 y c = c + L ∧ IsLen y L ∧ L ≤ 32 := by
  unfold len2
  split
  · obtain ⟨L, e, h, hl⟩ := len1_is (y := y / 2 ^ 16) (c := c + 16) (by omega) (by omega) (by omega)
    exact ⟨L + 16, by omega, isLen_up 16 h, by omega⟩
  · obtain ⟨L, e, h, hl⟩ := len1_is (y := y) (c := c) h0 (by omega) hc
    exact ⟨L, e, h, by omega⟩
theorem lenD_is {x : Int} (h0 : 0 < x) (h1 : x < 18446744073709551616) : IsLen x (lenD x) ∧ lenD x ≤ 64 := by
  unfold lenD
  split
  · obtain ⟨L, e, h, hl⟩ := len2_is (y := x / 2 ^ 32) (c := 32) (by omega) (by omega) (by omega)
    rw [e, Int.add_comm]
    exact ⟨isLen_up 32 h, by omega⟩
  · obtain ⟨L, e, h, hl⟩ := len2_is (y := x) (c := 0) h0 (by omega) (by omega)
    rw [e, Int.zero_add]
    exact ⟨h, by omega⟩
theorem Len64_C (F : Mem) (x : Int) (h0 : 0 < x) (h1 : x < 18446744073709551616) : C0 Try.prog 85 [.int .u64 x] F (.int .i64 (lenD x)) := by
  have b0 : ∀ y : Int, 0 ≤ byteAt ltab y.toNat ∧ byteAt ltab y.toNat < 256 := fun y => by
    unfold byteAt
    have := (ltab.data.toList.getD y.toNat 0).toNat_lt
    omega
  have q1 := b0 x
  have q2 := b0 (x / 2 ^ 8)
  have q3 := b0 (x / 2 ^ 16)
  have q4 := b0 (x / 2 ^ 16 / 2 ^ 8)
  have q5 := b0 (x / 2 ^ 32)
  have q6 := b0 (x / 2 ^ 32 / 2 ^ 8)
  have q7 := b0 (x / 2 ^ 32 / 2 ^ 16)
  have q8 := b0 (x / 2 ^ 32 / 2 ^ 16 / 2 ^ 8)
  clear b0
  refine C.go hT Try.func85 Try.ntmps85 ?_
  refine sq ?_
  refine rg ?_
  refine st (h := O) ?_
  refine nl ?_
  iterate 2 (refine sq ?_)
  refine rg ?_
  iterate 2 (refine st (h := O) ?_)
  refine nl ?_
  refine cD (fun c0 => ?_) (fun c0 => ?_)
  ·refine sq ?_
   refine rg ?_
   refine st (h := O) ?_
   refine st (h := suShr 32 rfl) ?_
   refine st (h := O) ?_
   refine nl ?_
   refine rg ?_
   refine st (h := O) ?_
   refine nl ?_
   iterate 2 (refine sq ?_)
   refine rg ?_
   iterate 2 (refine st (h := O) ?_)
   refine nl ?_
   refine cD (fun c1 => ?_) (fun c1 => ?_)
   ·refine sq ?_
    refine rg ?_
    refine st (h := O) ?_
    refine st (h := suShr 16 rfl) ?_
    refine st (h := O) ?_
    refine nl ?_
    refine rg ?_
    refine st (h := O) ?_
    refine st (h := sdA) ?_
    refine st (h := O) ?_
    refine nl ?_
    iterate 2 (refine sq ?_)
    refine rg ?_
    iterate 2 (refine st (h := O) ?_)
    refine nl ?_
    refine cD (fun c2 => ?_) (fun c2 => ?_)
    ·refine sq ?_
     refine rg ?_
     refine st (h := O) ?_
     refine st (h := suShr 8 rfl) ?_
     refine st (h := O) ?_
     refine nl ?_
     refine rg ?_
     refine st (h := O) ?_
     refine st (h := sdA) ?_
     refine st (h := O) ?_
     refine nl ?_
     refine sq ?_
     refine rg ?_
     iterate 2 (refine st (h := O) ?_)
     refine st (h := suC (hw := by simp only [IntKind.wrap, IntKind.bits, IntKind.signed, Bool.false_and, Bool.false_eq_true, if_false]; omega)) ?_
     refine st (h := sdXs (s := ltab) (h1 := by show _ < ((256 : Nat) : Int); omega)) ?_
     refine st (h := suC (hw := wrap_i64 (by omega) (by omega))) ?_
     refine st (h := sdA) ?_
     refine st (h := O) ?_
     refine nl ?_
     refine rt ⟨congrArg (Value.int .i64) ?_, rfl⟩
     simp only [lenD, len2, len1, *, if_true, if_false, ge_iff_le]
    ·refine sk ?_
     refine sq ?_
     refine rg ?_
     iterate 2 (refine st (h := O) ?_)
     refine st (h := suC (hw := by simp only [IntKind.wrap, IntKind.bits, IntKind.signed, Bool.false_and, Bool.false_eq_true, if_false]; omega)) ?_
     refine st (h := sdXs (s := ltab) (h1 := by show _ < ((256 : Nat) : Int); omega)) ?_
     refine st (h := suC (hw := wrap_i64 (by omega) (by omega))) ?_
     refine st (h := sdA) ?_
     refine st (h := O) ?_
     refine nl ?_
     refine rt ⟨congrArg (Value.int .i64) ?_, rfl⟩
     simp only [lenD, len2, len1, *, if_true, if_false, ge_iff_le]
   ·refine sk ?_
    iterate 2 (refine sq ?_)
    refine rg ?_
    iterate 2 (refine st (h := O) ?_)
    refine nl ?_
    refine cD (fun c2 => ?_) (fun c2 => ?_)
    ·refine sq ?_
     refine rg ?_
     refine st (h := O) ?_
     refine st (h := suShr 8 rfl) ?_
     refine st (h := O) ?_
     refine nl ?_
     refine rg ?_
     refine st (h := O) ?_
     refine st (h := sdA) ?_
     refine st (h := O) ?_
     refine nl ?_
     refine sq ?_
     refine rg ?_
     iterate 2 (refine st (h := O) ?_)
     refine st (h := suC (hw := by simp only [IntKind.wrap, IntKind.bits, IntKind.signed, Bool.false_and, Bool.false_eq_true, if_false]; omega)) ?_
     refine st (h := sdXs (s := ltab) (h1 := by show _ < ((256 : Nat) : Int); omega)) ?_
     refine st (h := suC (hw := wrap_i64 (by omega) (by omega))) ?_
     refine st (h := sdA) ?_
     refine st (h := O) ?_
     refine nl ?_
     refine rt ⟨congrArg (Value.int .i64) ?_, rfl⟩
     simp only [lenD, len2, len1, *, if_true, if_false, ge_iff_le]
    ·refine sk ?_
     refine sq ?_
     refine rg ?_
     iterate 2 (refine st (h := O) ?_)
     refine st (h := suC (hw := by simp only [IntKind.wrap, IntKind.bits, IntKind.signed, Bool.false_and, Bool.false_eq_true, if_false]; omega)) ?_
     refine st (h := sdXs (s := ltab) (h1 := by show _ < ((256 : Nat) : Int); omega)) ?_
     refine st (h := suC (hw := wrap_i64 (by omega) (by omega))) ?_
     refine st (h := sdA) ?_
     refine st (h := O) ?_
     refine nl ?_
     refine rt ⟨congrArg (Value.int .i64) ?_, rfl⟩
     simp only [lenD, len2, len1, *, if_true, if_false, ge_iff_le]
  ·refine sk ?_
   iterate 2 (refine sq ?_)
   refine rg ?_
   iterate 2 (refine st (h := O) ?_)
   refine nl ?_
   refine cD (fun c1 => ?_) (fun c1 => ?_)
   ·refine sq ?_
    refine rg ?_
    refine st (h := O) ?_
    refine st (h := suShr 16 rfl) ?_
    refine st (h := O) ?_
    refine nl ?_
    refine rg ?_
    refine st (h := O) ?_
    refine st (h := sdA) ?_
    refine st (h := O) ?_
    refine nl ?_
    iterate 2 (refine sq ?_)
    refine rg ?_
    iterate 2 (refine st (h := O) ?_)
    refine nl ?_
    refine cD (fun c2 => ?_) (fun c2 => ?_)
    ·refine sq ?_
     refine rg ?_
     refine st (h := O) ?_
     refine st (h := suShr 8 rfl) ?_
     refine st (h := O) ?_
     refine nl ?_
     refine rg ?_
     refine st (h := O) ?_
     refine st (h := sdA) ?_
     refine st (h := O) ?_
     refine nl ?_
     refine sq ?_
     refine rg ?_
     iterate 2 (refine st (h := O) ?_)
     refine st (h := suC (hw := by simp only [IntKind.wrap, IntKind.bits, IntKind.signed, Bool.false_and, Bool.false_eq_true, if_false]; omega)) ?_
     refine st (h := sdXs (s := ltab) (h1 := by show _ < ((256 : Nat) : Int); omega)) ?_
     refine st (h := suC (hw := wrap_i64 (by omega) (by omega))) ?_
     refine st (h := sdA) ?_
     refine st (h := O) ?_
     refine nl ?_
     refine rt ⟨congrArg (Value.int .i64) ?_, rfl⟩
     simp only [lenD, len2, len1, *, if_true, if_false, ge_iff_le]
    ·refine sk ?_
     refine sq ?_
     refine rg ?_
     iterate 2 (refine st (h := O) ?_)
     refine st (h := suC (hw := by simp only [IntKind.wrap, IntKind.bits, IntKind.signed, Bool.false_and, Bool.false_eq_true, if_false]; omega)) ?_
     refine st (h := sdXs (s := ltab) (h1 := by show _ < ((256 : Nat) : Int); omega)) ?_
     refine st (h := suC (hw := wrap_i64 (by omega) (by omega))) ?_
     refine st (h := sdA) ?_
     refine st (h := O) ?_
     refine nl ?_
     refine rt ⟨congrArg (Value.int .i64) ?_, rfl⟩
     simp only [lenD, len2, len1, *, if_true, if_false, ge_iff_le]
   ·refine sk ?_
    iterate 2 (refine sq ?_)
    refine rg ?_
    iterate 2 (refine st (h := O) ?_)
    refine nl ?_
    refine cD (fun c2 => ?_) (fun c2 => ?_)
    ·refine sq ?_
     refine rg ?_
     refine st (h := O) ?_
     refine st (h := suShr 8 rfl) ?_
     refine st (h := O) ?_
     refine nl ?_
     refine rg ?_
     refine st (h := O) ?_
     refine st (h := sdA) ?_
     refine st (h := O) ?_
     refine nl ?_
     refine sq ?_
     refine rg ?_
     iterate 2 (refine st (h := O) ?_)
     refine st (h := suC (hw := by simp only [IntKind.wrap, IntKind.bits, IntKind.signed, Bool.false_and, Bool.false_eq_true, if_false]; omega)) ?_
     refine st (h := sdXs (s := ltab) (h1 := by show _ < ((256 : Nat) : Int); omega)) ?_
     refine st (h := suC (hw := wrap_i64 (by omega) (by omega))) ?_
     refine st (h := sdA) ?_
     refine st (h := O) ?_
     refine nl ?_
     refine rt ⟨congrArg (Value.int .i64) ?_, rfl⟩
     simp only [lenD, len2, len1, *, if_true, if_false, ge_iff_le]
    ·refine sk ?_
     refine sq ?_
     refine rg ?_
     iterate 2 (refine st (h := O) ?_)
     refine st (h := suC (hw := by simp only [IntKind.wrap, IntKind.bits, IntKind.signed, Bool.false_and, Bool.false_eq_true, if_false]; omega)) ?_
     refine st (h := sdXs (s := ltab) (h1 := by show _ < ((256 : Nat) : Int); omega)) ?_
     refine st (h := suC (hw := wrap_i64 (by omega) (by omega))) ?_
     refine st (h := sdA) ?_
     refine st (h := O) ?_
     refine nl ?_
     refine rt ⟨congrArg (Value.int .i64) ?_, rfl⟩
     simp only [lenD, len2, len1, *, if_true, if_false, ge_iff_le]
theorem lz_C (F : Mem) (y : Int) (h0 : 0 < y) (h1 : y < 18446744073709551616) : C0 Try.prog 84 [.int .u64 y] F (.int .i64 (64 - lenD y)) := by
  have hl := (lenD_is h0 h1)
  have hl0 := hl.1.1
  refine C.go hT Try.func84 Try.ntmps84 ?_
  refine sq ?_
  refine rg ?_
  refine st (h := O) ?_
  refine nl ?_
  refine sq ?_
  refine rg ?_
  refine st (h := O) ?_
  refine cl (h := by exact fun ι hV hl => Len64_C _ _ h0 h1) ?_
  refine st (h := sdS) ?_
  refine st (h := O) ?_
  refine nl ?_
  exact rt ⟨rfl, rfl⟩
theorem lz_is {y : Int} (h0 : 0 < y) (h1 : y < 18446744073709551616) : ∃ s : Nat, 64 - lenD y = (s : Int) ∧ s ≤ 63 ∧ 9223372036854775808 ≤ y * 2 ^ s ∧ y * 2 ^ s < 18446744073709551616 := by
  obtain ⟨⟨hL0, hL1, hL2⟩, hl⟩ := lenD_is h0 h1
  obtain ⟨n, hn'⟩ := Int.eq_ofNat_of_zero_le (Int.le_of_lt hL0)
  rw [hn'] at hL0 hL1 hL2 hl ⊢
  simp only [Int.toNat_natCast] at hL1 hL2
  have hn : n ≤ 64 := by omega
  have hn0 : 0 < n := by omega
  refine ⟨64 - n, by omega, by omega, ?_, ?_⟩
  · have h := Int.mul_le_mul_of_nonneg_right hL2 (Int.le_of_lt (show (0 : Int) < 2 ^ (64 - n) from Int.pow_pos (by decide)))
    rw [← Int.pow_add] at h
    rw [show n - 1 + (64 - n) = 63 from by omega] at h
    omega
  · have h := Int.mul_lt_mul_of_pos_right hL1 (show (0 : Int) < 2 ^ (64 - n) from Int.pow_pos (by decide))
    rw [← Int.pow_add] at h
    rw [show n + (64 - n) = 64 from by omega] at h
    omega
theorem Div64_C (F : Mem) (hi lo y : Int) (h0 : 0 ≤ hi) (hlo0 : 0 ≤ lo) (hlo : lo < 18446744073709551616) (hy : y < 18446744073709551616) (hlt : hi < y) : C0 Try.prog 80 [.int .u64 hi, .int .u64 lo, .int .u64 y] F
    (.tuple #[.int .u64 ((hi * 18446744073709551616 + lo) / y), .int .u64 ((hi * 18446744073709551616 + lo) % y)]) := by
  have hy0 : 0 < y := by omega
  obtain ⟨s, hz0, hs, hY0, hY1⟩ := lz_is hy0 hy
  have hLz : ∀ G, C0 Try.prog 84 [.int .u64 y] G (.int .i64 (s : Int)) := fun G => by rw [← hz0]; exact lz_C G y hy0 hy
  have hp := pow_le63 hs
  have hsl := shr_low hlo0 hlo hs
  have hparts := shift_parts (hi := hi) hlo0 hlo hs
  have hmul : hi * 2 ^ s < y * 2 ^ s := Int.mul_lt_mul_of_pos_right hlt (by omega)
  have hmul' : hi * 2 ^ s + 2 ^ s ≤ y * 2 ^ s := by
    have := Int.mul_le_mul_of_nonneg_right (show hi + 1 ≤ y by omega) (show (0 : Int) ≤ 2 ^ s by omega)
    rw [Int.add_mul, Int.one_mul] at this; exact this
  have hh0 : 0 ≤ hi * 2 ^ s := Int.mul_nonneg h0 (by omega)
  have hmod : (hi * 2 ^ s) % 2 ^ s = 0 := Int.mul_emod_left _ _
  have hfull := two_digits (U := hi * 2 ^ s + lo / 2 ^ (64 - s)) (n1 := lo * 2 ^ s % 18446744073709551616 / 4294967296) (n0 := lo * 2 ^ s % 18446744073709551616 % 4294967296) (Y := y * 2 ^ s) (by omega)
  have hor : Go.bits .or .u64 (hi * 2 ^ s) (lo / 2 ^ (64 - s)) = hi * 2 ^ s + lo / 2 ^ (64 - s) := u64_orJ s _ _ hh0 hmod (by omega) hsl.1 hsl.2 (by omega)
  have hend1 : ((hi * 2 ^ s + lo / 2 ^ (64 - s)) * 4294967296 + lo * 2 ^ s % 18446744073709551616 / 4294967296) / (y * 2 ^ s) * 4294967296 + (((hi * 2 ^ s + lo / 2 ^ (64 - s)) * 4294967296 + lo * 2 ^ s % 18446744073709551616 / 4294967296) % (y * 2 ^ s) * 4294967296 + lo * 2 ^ s % 18446744073709551616 % 4294967296) / (y * 2 ^ s) = (hi * 18446744073709551616 + lo) / y := by
    rw [hfull.1, ← hparts]
    exact Int.mul_ediv_mul_of_pos_left _ _ (by omega)
  have hend2 : (((hi * 2 ^ s + lo / 2 ^ (64 - s)) * 4294967296 + lo * 2 ^ s % 18446744073709551616 / 4294967296) % (y * 2 ^ s) * 4294967296 + lo * 2 ^ s % 18446744073709551616 % 4294967296) % (y * 2 ^ s) / 2 ^ s = (hi * 18446744073709551616 + lo) % y := by
    rw [hfull.2, ← hparts, Int.mul_comm _ (2 ^ s), Int.mul_comm y (2 ^ s), Int.mul_emod_mul_of_pos _ _ (by omega)]
    exact Int.mul_ediv_cancel_left _ (by omega)
  have e_s : IntKind.u64.wrap (s : Int) = s := by rw [wrapu]; omega
  have hl2 : lo * 2 ^ s % 18446744073709551616 = lo * 2 ^ s % 18446744073709551616 := rfl
  clear hfull hparts
  refine C.go hT Try.func80 Try.ntmps80 ?_
  refine sq ?_
  refine rg ?_
  iterate 2 (refine st (h := O) ?_)
  refine nl ?_
  iterate 2 (refine sq ?_)
  refine rg ?_
  iterate 2 (refine st (h := O) ?_)
  refine nl ?_
  refine cD (fun c0 => ?_) (fun c0 => ?_)
  ·exact absurd c0 (by omega)
  ·refine sk ?_
   iterate 2 (refine sq ?_)
   refine rg ?_
   iterate 3 (refine st (h := O) ?_)
   refine nl ?_
   refine cD (fun c1 => ?_) (fun c1 => ?_)
   ·exact absurd c1 (by omega)
   ·refine sk ?_
    iterate 2 (refine sq ?_)
    refine rg ?_
    iterate 2 (refine st (h := O) ?_)
    refine nl ?_
    refine cD (fun c2 => ?_) (fun c2 => ?_)
    ·refine sq ?_
     refine dr 8 [] [0, 1, 2, 3, 4, 5, 6, 7] ?_
     iterate 2 (refine dt (hv := by exact O) ?_)
     refine dt (hv := by exact suQ) ?_
     iterate 2 (refine dt (hv := by exact O) ?_)
     refine dt (hv := by exact suR) ?_
     iterate 2 (refine dt (hv := by exact O) ?_)
     refine dn ?_
     refine rt ⟨?_, rfl⟩
     subst c2
     rw [Int.zero_mul, Int.zero_add]
    ·refine sk ?_
     refine sq ?_
     refine rg ?_
     refine st (h := O) ?_
     refine cl (h := by exact fun ι hV hl => hLz _) ?_
     refine st (h := suC) ?_
     refine st (h := O) ?_
     refine nl ?_
     refine sq ?_
     refine rg ?_
     iterate 2 (refine st (h := O) ?_)
     refine st (h := suShl s (a := y) (v := y * 2 ^ s) (by omega) (hb := rfl) (hn := by omega)) ?_
     refine st (h := O) ?_
     refine nl ?_
     refine sq ?_
     refine rg ?_
     refine st (h := O) ?_
     refine st (h := suShr 32 rfl) ?_
     refine st (h := O) ?_
     refine nl ?_
     refine sq ?_
     refine rg ?_
     refine st (h := O) ?_
     refine st (h := suAnd32) ?_
     refine st (h := O) ?_
     refine nl ?_
     refine sq ?_
     refine rg ?_
     iterate 2 (refine st (h := O) ?_)
     refine st (h := suShl s (a := hi) (v := hi * 2 ^ s) (by omega) (hb := rfl) (hn := by omega)) ?_
     iterate 2 (refine st (h := O) ?_)
     refine st (h := suS) ?_
     refine st (h := suShr (64 - s) rfl (hb := by omega) (hn := by simp [IntKind.bits])) ?_
     refine st (h := sbOr hor) ?_
     refine st (h := O) ?_
     refine nl ?_
     refine sq ?_
     refine rg ?_
     iterate 2 (refine st (h := O) ?_)
     refine st (h := suShl s rfl (hb := rfl) (hn := by omega)) ?_
     refine st (h := O) ?_
     refine nl ?_
     refine sq ?_
     refine rg ?_
     refine st (h := O) ?_
     refine st (h := suShr 32 rfl) ?_
     refine st (h := O) ?_
     refine nl ?_
     refine sq ?_
     refine rg ?_
     refine st (h := O) ?_
     refine st (h := suAnd32) ?_
     refine st (h := O) ?_
     refine nl ?_
     refine sq ?_
     generalize hU : hi * 2 ^ s + lo / 2 ^ (64 - s) = U at *
     generalize hYY : y * 2 ^ s = Y at *
     rw [show lo * 2 ^ s % 18446744073709551616 / 2 ^ 32 = lo * 2 ^ s % 18446744073709551616 / 4294967296 from rfl, show Y / 2 ^ 32 = Y / 4294967296 from rfl]
     have hn1a : 0 ≤ lo * 2 ^ s % 18446744073709551616 / 4294967296 ∧ lo * 2 ^ s % 18446744073709551616 / 4294967296 < 4294967296 := by omega
     have hn0a : 0 ≤ lo * 2 ^ s % 18446744073709551616 % 4294967296 ∧ lo * 2 ^ s % 18446744073709551616 % 4294967296 < 4294967296 := by omega
     generalize hn1 : lo * 2 ^ s % 18446744073709551616 / 4294967296 = n1 at *
     generalize hn0 : lo * 2 ^ s % 18446744073709551616 % 4294967296 = n0 at *
     have hU0 : 0 ≤ U := by omega
     have hUY : U < Y := by omega
     have hYs : Y = Y / 4294967296 * 4294967296 + Y % 4294967296 := by omega
     have hmr := Int.mul_ediv_add_emod U (Y / 4294967296)
     have hmr0 := Int.emod_nonneg U (show Y / 4294967296 ≠ 0 by omega)
     have hmr1 := Int.emod_lt_of_pos U (show 0 < Y / 4294967296 by omega)
     have hq1 := Int.ediv_nonneg hU0 (show 0 ≤ Y / 4294967296 by omega)
     have hq2 := Int.ediv_le_self (Y / 4294967296) hU0
     have hcm : U / (Y / 4294967296) * (Y / 4294967296) = Y / 4294967296 * (U / (Y / 4294967296)) := Int.mul_comm _ _
     have hcm0 : 0 ≤ U / (Y / 4294967296) * (Y / 4294967296) := Int.mul_nonneg hq1 (by omega)
     have hQ := dig_lt (u := U) (un1 := n1) (Y := Y) (by omega) hUY hn1a.2
     have hQ0 := dig_nonneg (u := U) (un1 := n1) (Y := Y) (by omega) hU0 hn1a.1
     have hg1 := dig_top (n := n1) hYs (by omega) (by omega) hU0 hn1a.2
     have hg2 := dig_guess hYs (by omega) (by omega) hUY
     have hR0 := Int.emod_nonneg (U * 4294967296 + n1) (show Y ≠ 0 by omega)
     have hR1 := Int.emod_lt_of_pos (U * 4294967296 + n1) (show 0 < Y by omega)
     have hdm := Int.mul_ediv_add_emod (U * 4294967296 + n1) Y
     refine rg ?_
     iterate 2 (refine st (h := O) ?_)
     refine st (h := suQ) ?_
     refine st (h := O) ?_
     refine nl ?_
     refine sq ?_
     refine rg ?_
     iterate 3 (refine st (h := O) ?_)
     refine st (h := suM) ?_
     refine st (h := suS) ?_
     refine st (h := O) ?_
     refine nl ?_
     refine sq ?_
     refine bl ?_
     refine J.loop2 (α := Int) (β := Int) (fun q rh => (U * 4294967296 + n1) / Y ≤ q ∧ q ≤ 4294967297 ∧ q * (Y / 4294967296) + rh = U ∧ 0 ≤ rh ∧ rh < 4294967296) (fun q rh => [(15, .int .u64 q), (16, .int .u64 rh)]) [(2, _), (8, _), (9, _), (10, _), (11, _), (13, _), (14, _)] (fun q rh => []) [] (fun q rh => (8589934592 - rh).toNat) (_) (_) (by exact ⟨rfl, rfl, trivial⟩) (by exact ⟨rfl, rfl, rfl, rfl, rfl, rfl, rfl, trivial⟩) (by exact trivial) ?_ ?_
     · exact ⟨hg1, hg2, by omega, by omega, by omega⟩
     ·intro q rh L1 K1 e1 e2 hI
      dsimp only [apV, apR, List.cons_append, List.nil_append] at e1 e2
      subst e1 e2
      obtain ⟨hqa, hqb, hqe, hr0, hr1⟩ := hI
      have hb := mulq_bd (q := q) (y := Y % 4294967296) (by omega) hqb (by omega) (by omega)
      have he' : (q - 1) * (Y / 4294967296) + (rh + Y / 4294967296) = U := by
        rw [Int.sub_mul, Int.one_mul]; omega
      iterate 2 (refine sq ?_)
      refine rg ?_
      iterate 3 (refine st (h := O) ?_)
      refine gD (fun g69 => ?_) (fun g69 => ?_)
      ·have hlt2 : (U * 4294967296 + n1) / Y < q := by omega
       iterate 8 (refine sp ?_)
       refine st (h := O) ?_
       refine nl ?_
       refine cT ?_
       refine sk ?_
       refine bl ?_
       refine sq ?_
       refine rg ?_
       refine st (h := O) ?_
       refine st (h := suS) ?_
       refine st (h := O) ?_
       refine nl ?_
       refine sq ?_
       refine rg ?_
       iterate 2 (refine st (h := O) ?_)
       refine st (h := suA) ?_
       refine st (h := O) ?_
       refine nl ?_
       refine sq ?_
       refine rg ?_
       iterate 2 (refine st (h := O) ?_)
       refine nl ?_
       refine cD (fun c4 => ?_) (fun c4 => ?_)
       ·have hdig : q - 1 = (U * 4294967296 + n1) / Y := by
          have := dig_lo hYs (by omega) he' (un1 := n1) (by
            have := Int.mul_le_mul (show q - 1 ≤ 4294967296 by omega) (show Y % 4294967296 ≤ 4294967295 by omega) (by omega) (by omega : (0 : Int) ≤ 4294967296)
            omega)
          omega
        rw [hdig]
        refine ex ?_
        refine sq ?_
        refine rg ?_
        iterate 9 (refine st (h := O) ?_)
        refine nl ?_
        refine sq ?_
        have eR : IntKind.u64.wrap (IntKind.u64.wrap (IntKind.u64.wrap (U * 4294967296) + n1) - IntKind.u64.wrap ((U * 4294967296 + n1) / Y * Y)) = (U * 4294967296 + n1) % Y := by
          simp only [wrapu]
          rw [Int.mul_comm ((U * 4294967296 + n1) / Y) Y]
          generalize Y * ((U * 4294967296 + n1) / Y) = t at *
          omega
        rw [eR]
        clear eR
        generalize hRR : (U * 4294967296 + n1) % Y = R at *
        generalize hQQ : (U * 4294967296 + n1) / Y = Q1 at *
        have hmq := Int.mul_ediv_add_emod R (Y / 4294967296)
        have hmq0 := Int.emod_nonneg R (show Y / 4294967296 ≠ 0 by omega)
        have hmq1 := Int.emod_lt_of_pos R (show 0 < Y / 4294967296 by omega)
        have hw1 := Int.ediv_nonneg hR0 (show 0 ≤ Y / 4294967296 by omega)
        have hw2 := Int.ediv_le_self (Y / 4294967296) hR0
        have hcm2 : R / (Y / 4294967296) * (Y / 4294967296) = Y / 4294967296 * (R / (Y / 4294967296)) := Int.mul_comm _ _
        have hcm3 : 0 ≤ R / (Y / 4294967296) * (Y / 4294967296) := Int.mul_nonneg hw1 (by omega)
        have hV := dig_lt (u := R) (un1 := n0) (Y := Y) (by omega) hR1 hn0a.2
        have hV0 := dig_nonneg (u := R) (un1 := n0) (Y := Y) (by omega) hR0 hn0a.1
        have hv1 := dig_top (n := n0) hYs (by omega) (by omega) hR0 hn0a.2
        have hv2 := dig_guess hYs (by omega) (by omega) hR1
        have hdn := Int.mul_ediv_add_emod (R * 4294967296 + n0) Y
        have hT0 := Int.emod_nonneg (R * 4294967296 + n0) (show Y ≠ 0 by omega)
        have hT1 := Int.emod_lt_of_pos (R * 4294967296 + n0) (show 0 < Y by omega)
        refine rg ?_
        iterate 2 (refine st (h := O) ?_)
        refine st (h := suQ) ?_
        refine st (h := O) ?_
        refine nl ?_
        refine sq ?_
        refine rg ?_
        iterate 3 (refine st (h := O) ?_)
        refine st (h := suM) ?_
        refine st (h := suS) ?_
        refine st (h := O) ?_
        refine nl ?_
        refine sq ?_
        refine bl ?_
        refine J.loop2 (α := Int) (β := Int) (fun q rh => (R * 4294967296 + n0) / Y ≤ q ∧ q ≤ 4294967297 ∧ q * (Y / 4294967296) + rh = R ∧ 0 ≤ rh ∧ rh < 4294967296) (fun q rh => [(18, .int .u64 q), (16, .int .u64 rh)]) [(2, _), (8, _), (9, _), (10, _), (14, _), (15, _), (17, _)] (fun q rh => []) [] (fun q rh => (8589934592 - rh).toNat) (_) (_) (by exact ⟨rfl, rfl, trivial⟩) (by exact ⟨rfl, rfl, rfl, rfl, rfl, rfl, rfl, trivial⟩) (by exact trivial) ?_ ?_
        · exact ⟨hv1, hv2, by omega, by omega, by omega⟩
        ·intro q rh L1 K1 e1 e2 hI
         dsimp only [apV, apR, List.cons_append, List.nil_append] at e1 e2
         subst e1 e2
         obtain ⟨hqa', hqb', hqe', hr0', hr1'⟩ := hI
         have hb' := mulq_bd (q := q) (y := Y % 4294967296) (by omega) hqb' (by omega) (by omega)
         have he'' : (q - 1) * (Y / 4294967296) + (rh + Y / 4294967296) = R := by
           rw [Int.sub_mul, Int.one_mul]; omega
         iterate 2 (refine sq ?_)
         refine rg ?_
         iterate 3 (refine st (h := O) ?_)
         refine gD (fun g104 => ?_) (fun g104 => ?_)
         ·have hlt3 : (R * 4294967296 + n0) / Y < q := by omega
          iterate 8 (refine sp ?_)
          refine st (h := O) ?_
          refine nl ?_
          refine cT ?_
          refine sk ?_
          refine bl ?_
          refine sq ?_
          refine rg ?_
          refine st (h := O) ?_
          refine st (h := suS) ?_
          refine st (h := O) ?_
          refine nl ?_
          refine sq ?_
          refine rg ?_
          iterate 2 (refine st (h := O) ?_)
          refine st (h := suA) ?_
          refine st (h := O) ?_
          refine nl ?_
          refine sq ?_
          refine rg ?_
          iterate 2 (refine st (h := O) ?_)
          refine nl ?_
          refine cD (fun c6 => ?_) (fun c6 => ?_)
          ·have hdig2 : q - 1 = (R * 4294967296 + n0) / Y := by
             have := dig_lo hYs (by omega) he'' (un1 := n0) (by
               have := Int.mul_le_mul (show q - 1 ≤ 4294967296 by omega) (show Y % 4294967296 ≤ 4294967295 by omega) (by omega) (by omega : (0 : Int) ≤ 4294967296)
               omega)
             omega
           rw [hdig2]
           refine ex ?_
           refine sq ?_
           refine rg ?_
           refine st (h := O) ?_
           refine st (h := suM) ?_
           refine st (h := O) ?_
           refine st (h := suA) ?_
           iterate 9 (refine st (h := O) ?_)
           refine st (h := suShr s rfl (hb := rfl) (hn := by simp [IntKind.bits]; omega)) ?_
           iterate 2 (refine st (h := O) ?_)
           refine nl ?_
           refine rt ⟨?_, rfl⟩
           have eT : IntKind.u64.wrap (IntKind.u64.wrap (IntKind.u64.wrap (R * 4294967296) + n0) - IntKind.u64.wrap ((R * 4294967296 + n0) / Y * Y)) = (R * 4294967296 + n0) % Y := by
             simp only [wrapu]
             rw [Int.mul_comm ((R * 4294967296 + n0) / Y) Y]
             generalize Y * ((R * 4294967296 + n0) / Y) = t at *
             omega
           rw [eT, hend1, hend2]
          ·refine sk ?_
           refine bk ?_
           refine bk2 (_) (_) (by exact ⟨rfl, rfl, trivial⟩) (by exact ⟨rfl, rfl, rfl, rfl, rfl, rfl, rfl, trivial⟩) (by exact trivial) ?_ ?_
           · omega
           · exact ⟨by omega, by omega, he'', by omega, by omega⟩
         ·refine sg (h := O) ?_
          refine sg (h := O) ?_
          refine sg (h := suM) ?_
          refine sg (h := O) ?_
          refine sg (h := suM) ?_
          refine sg (h := O) ?_
          refine sg (h := suA) ?_
          refine sg (h := O) ?_
          refine st (h := O) ?_
          refine nl ?_
          refine cD (fun c5 => ?_) (fun c5 => ?_)
          ·have hlt3 : (R * 4294967296 + n0) / Y < q := dig_hi hYs (by omega) hqe' (by omega)
           refine sk ?_
           refine bl ?_
           refine sq ?_
           refine rg ?_
           refine st (h := O) ?_
           refine st (h := suS) ?_
           refine st (h := O) ?_
           refine nl ?_
           refine sq ?_
           refine rg ?_
           iterate 2 (refine st (h := O) ?_)
           refine st (h := suA) ?_
           refine st (h := O) ?_
           refine nl ?_
           refine sq ?_
           refine rg ?_
           iterate 2 (refine st (h := O) ?_)
           refine nl ?_
           refine cD (fun c6 => ?_) (fun c6 => ?_)
           ·have hdig2 : q - 1 = (R * 4294967296 + n0) / Y := by
              have := dig_lo hYs (by omega) he'' (un1 := n0) (by
                have := Int.mul_le_mul (show q - 1 ≤ 4294967296 by omega) (show Y % 4294967296 ≤ 4294967295 by omega) (by omega) (by omega : (0 : Int) ≤ 4294967296)
                omega)
              omega
            rw [hdig2]
            refine ex ?_
            refine sq ?_
            refine rg ?_
            refine st (h := O) ?_
            refine st (h := suM) ?_
            refine st (h := O) ?_
            refine st (h := suA) ?_
            iterate 9 (refine st (h := O) ?_)
            refine st (h := suShr s rfl (hb := rfl) (hn := by simp [IntKind.bits]; omega)) ?_
            iterate 2 (refine st (h := O) ?_)
            refine nl ?_
            refine rt ⟨?_, rfl⟩
            have eT : IntKind.u64.wrap (IntKind.u64.wrap (IntKind.u64.wrap (R * 4294967296) + n0) - IntKind.u64.wrap ((R * 4294967296 + n0) / Y * Y)) = (R * 4294967296 + n0) % Y := by
              simp only [wrapu]
              rw [Int.mul_comm ((R * 4294967296 + n0) / Y) Y]
              generalize Y * ((R * 4294967296 + n0) / Y) = t at *
              omega
            rw [eT, hend1, hend2]
           ·refine sk ?_
            refine bk ?_
            refine bk2 (_) (_) (by exact ⟨rfl, rfl, trivial⟩) (by exact ⟨rfl, rfl, rfl, rfl, rfl, rfl, rfl, trivial⟩) (by exact trivial) ?_ ?_
            · omega
            · exact ⟨by omega, by omega, he'', by omega, by omega⟩
          ·have hdig2 : q = (R * 4294967296 + n0) / Y := by
             have := dig_lo hYs (by omega) hqe' (un1 := n0) (by omega)
             omega
           rw [hdig2]
           refine ex ?_
           refine sq ?_
           refine rg ?_
           refine st (h := O) ?_
           refine st (h := suM) ?_
           refine st (h := O) ?_
           refine st (h := suA) ?_
           iterate 9 (refine st (h := O) ?_)
           refine st (h := suShr s rfl (hb := rfl) (hn := by simp [IntKind.bits]; omega)) ?_
           iterate 2 (refine st (h := O) ?_)
           refine nl ?_
           refine rt ⟨?_, rfl⟩
           have eT : IntKind.u64.wrap (IntKind.u64.wrap (IntKind.u64.wrap (R * 4294967296) + n0) - IntKind.u64.wrap ((R * 4294967296 + n0) / Y * Y)) = (R * 4294967296 + n0) % Y := by
             simp only [wrapu]
             rw [Int.mul_comm ((R * 4294967296 + n0) / Y) Y]
             generalize Y * ((R * 4294967296 + n0) / Y) = t at *
             omega
           rw [eT, hend1, hend2]
       ·refine sk ?_
        refine bk ?_
        refine bk2 (_) (_) (by exact ⟨rfl, rfl, trivial⟩) (by exact ⟨rfl, rfl, rfl, rfl, rfl, rfl, rfl, trivial⟩) (by exact trivial) ?_ ?_
        · omega
        · exact ⟨by omega, by omega, he', by omega, by omega⟩
      ·refine sg (h := O) ?_
       refine sg (h := O) ?_
       refine sg (h := suM) ?_
       refine sg (h := O) ?_
       refine sg (h := suM) ?_
       refine sg (h := O) ?_
       refine sg (h := suA) ?_
       refine sg (h := O) ?_
       refine st (h := O) ?_
       refine nl ?_
       refine cD (fun c3 => ?_) (fun c3 => ?_)
       ·have hlt2 : (U * 4294967296 + n1) / Y < q := dig_hi hYs (by omega) hqe (by omega)
        refine sk ?_
        refine bl ?_
        refine sq ?_
        refine rg ?_
        refine st (h := O) ?_
        refine st (h := suS) ?_
        refine st (h := O) ?_
        refine nl ?_
        refine sq ?_
        refine rg ?_
        iterate 2 (refine st (h := O) ?_)
        refine st (h := suA) ?_
        refine st (h := O) ?_
        refine nl ?_
        refine sq ?_
        refine rg ?_
        iterate 2 (refine st (h := O) ?_)
        refine nl ?_
        refine cD (fun c4 => ?_) (fun c4 => ?_)
        ·have hdig : q - 1 = (U * 4294967296 + n1) / Y := by
           have := dig_lo hYs (by omega) he' (un1 := n1) (by
             have := Int.mul_le_mul (show q - 1 ≤ 4294967296 by omega) (show Y % 4294967296 ≤ 4294967295 by omega) (by omega) (by omega : (0 : Int) ≤ 4294967296)
             omega)
           omega
         rw [hdig]
         refine ex ?_
         refine sq ?_
         refine rg ?_
         iterate 9 (refine st (h := O) ?_)
         refine nl ?_
         refine sq ?_
         have eR : IntKind.u64.wrap (IntKind.u64.wrap (IntKind.u64.wrap (U * 4294967296) + n1) - IntKind.u64.wrap ((U * 4294967296 + n1) / Y * Y)) = (U * 4294967296 + n1) % Y := by
           simp only [wrapu]
           rw [Int.mul_comm ((U * 4294967296 + n1) / Y) Y]
           generalize Y * ((U * 4294967296 + n1) / Y) = t at *
           omega
         rw [eR]
         clear eR
         generalize hRR : (U * 4294967296 + n1) % Y = R at *
         generalize hQQ : (U * 4294967296 + n1) / Y = Q1 at *
         have hmq := Int.mul_ediv_add_emod R (Y / 4294967296)
         have hmq0 := Int.emod_nonneg R (show Y / 4294967296 ≠ 0 by omega)
         have hmq1 := Int.emod_lt_of_pos R (show 0 < Y / 4294967296 by omega)
         have hw1 := Int.ediv_nonneg hR0 (show 0 ≤ Y / 4294967296 by omega)
         have hw2 := Int.ediv_le_self (Y / 4294967296) hR0
         have hcm2 : R / (Y / 4294967296) * (Y / 4294967296) = Y / 4294967296 * (R / (Y / 4294967296)) := Int.mul_comm _ _
         have hcm3 : 0 ≤ R / (Y / 4294967296) * (Y / 4294967296) := Int.mul_nonneg hw1 (by omega)
         have hV := dig_lt (u := R) (un1 := n0) (Y := Y) (by omega) hR1 hn0a.2
         have hV0 := dig_nonneg (u := R) (un1 := n0) (Y := Y) (by omega) hR0 hn0a.1
         have hv1 := dig_top (n := n0) hYs (by omega) (by omega) hR0 hn0a.2
         have hv2 := dig_guess hYs (by omega) (by omega) hR1
         have hdn := Int.mul_ediv_add_emod (R * 4294967296 + n0) Y
         have hT0 := Int.emod_nonneg (R * 4294967296 + n0) (show Y ≠ 0 by omega)
         have hT1 := Int.emod_lt_of_pos (R * 4294967296 + n0) (show 0 < Y by omega)
         refine rg ?_
         iterate 2 (refine st (h := O) ?_)
         refine st (h := suQ) ?_
         refine st (h := O) ?_
         refine nl ?_
         refine sq ?_
         refine rg ?_
         iterate 3 (refine st (h := O) ?_)
         refine st (h := suM) ?_
         refine st (h := suS) ?_
         refine st (h := O) ?_
         refine nl ?_
         refine sq ?_
         refine bl ?_
         refine J.loop2 (α := Int) (β := Int) (fun q rh => (R * 4294967296 + n0) / Y ≤ q ∧ q ≤ 4294967297 ∧ q * (Y / 4294967296) + rh = R ∧ 0 ≤ rh ∧ rh < 4294967296) (fun q rh => [(18, .int .u64 q), (16, .int .u64 rh)]) [(2, _), (8, _), (9, _), (10, _), (14, _), (15, _), (17, _)] (fun q rh => []) [] (fun q rh => (8589934592 - rh).toNat) (_) (_) (by exact ⟨rfl, rfl, trivial⟩) (by exact ⟨rfl, rfl, rfl, rfl, rfl, rfl, rfl, trivial⟩) (by exact trivial) ?_ ?_
         · exact ⟨hv1, hv2, by omega, by omega, by omega⟩
         ·intro q rh L1 K1 e1 e2 hI
          dsimp only [apV, apR, List.cons_append, List.nil_append] at e1 e2
          subst e1 e2
          obtain ⟨hqa', hqb', hqe', hr0', hr1'⟩ := hI
          have hb' := mulq_bd (q := q) (y := Y % 4294967296) (by omega) hqb' (by omega) (by omega)
          have he'' : (q - 1) * (Y / 4294967296) + (rh + Y / 4294967296) = R := by
            rw [Int.sub_mul, Int.one_mul]; omega
          iterate 2 (refine sq ?_)
          refine rg ?_
          iterate 3 (refine st (h := O) ?_)
          refine gD (fun g104 => ?_) (fun g104 => ?_)
          ·have hlt3 : (R * 4294967296 + n0) / Y < q := by omega
           iterate 8 (refine sp ?_)
           refine st (h := O) ?_
           refine nl ?_
           refine cT ?_
           refine sk ?_
           refine bl ?_
           refine sq ?_
           refine rg ?_
           refine st (h := O) ?_
           refine st (h := suS) ?_
           refine st (h := O) ?_
           refine nl ?_
           refine sq ?_
           refine rg ?_
           iterate 2 (refine st (h := O) ?_)
           refine st (h := suA) ?_
           refine st (h := O) ?_
           refine nl ?_
           refine sq ?_
           refine rg ?_
           iterate 2 (refine st (h := O) ?_)
           refine nl ?_
           refine cD (fun c6 => ?_) (fun c6 => ?_)
           ·have hdig2 : q - 1 = (R * 4294967296 + n0) / Y := by
              have := dig_lo hYs (by omega) he'' (un1 := n0) (by
                have := Int.mul_le_mul (show q - 1 ≤ 4294967296 by omega) (show Y % 4294967296 ≤ 4294967295 by omega) (by omega) (by omega : (0 : Int) ≤ 4294967296)
                omega)
              omega
            rw [hdig2]
            refine ex ?_
            refine sq ?_
            refine rg ?_
            refine st (h := O) ?_
            refine st (h := suM) ?_
            refine st (h := O) ?_
            refine st (h := suA) ?_
            iterate 9 (refine st (h := O) ?_)
            refine st (h := suShr s rfl (hb := rfl) (hn := by simp [IntKind.bits]; omega)) ?_
            iterate 2 (refine st (h := O) ?_)
            refine nl ?_
            refine rt ⟨?_, rfl⟩
            have eT : IntKind.u64.wrap (IntKind.u64.wrap (IntKind.u64.wrap (R * 4294967296) + n0) - IntKind.u64.wrap ((R * 4294967296 + n0) / Y * Y)) = (R * 4294967296 + n0) % Y := by
              simp only [wrapu]
              rw [Int.mul_comm ((R * 4294967296 + n0) / Y) Y]
              generalize Y * ((R * 4294967296 + n0) / Y) = t at *
              omega
            rw [eT, hend1, hend2]
           ·refine sk ?_
            refine bk ?_
            refine bk2 (_) (_) (by exact ⟨rfl, rfl, trivial⟩) (by exact ⟨rfl, rfl, rfl, rfl, rfl, rfl, rfl, trivial⟩) (by exact trivial) ?_ ?_
            · omega
            · exact ⟨by omega, by omega, he'', by omega, by omega⟩
          ·refine sg (h := O) ?_
           refine sg (h := O) ?_
           refine sg (h := suM) ?_
           refine sg (h := O) ?_
           refine sg (h := suM) ?_
           refine sg (h := O) ?_
           refine sg (h := suA) ?_
           refine sg (h := O) ?_
           refine st (h := O) ?_
           refine nl ?_
           refine cD (fun c5 => ?_) (fun c5 => ?_)
           ·have hlt3 : (R * 4294967296 + n0) / Y < q := dig_hi hYs (by omega) hqe' (by omega)
            refine sk ?_
            refine bl ?_
            refine sq ?_
            refine rg ?_
            refine st (h := O) ?_
            refine st (h := suS) ?_
            refine st (h := O) ?_
            refine nl ?_
            refine sq ?_
            refine rg ?_
            iterate 2 (refine st (h := O) ?_)
            refine st (h := suA) ?_
            refine st (h := O) ?_
            refine nl ?_
            refine sq ?_
            refine rg ?_
            iterate 2 (refine st (h := O) ?_)
            refine nl ?_
            refine cD (fun c6 => ?_) (fun c6 => ?_)
            ·have hdig2 : q - 1 = (R * 4294967296 + n0) / Y := by
               have := dig_lo hYs (by omega) he'' (un1 := n0) (by
                 have := Int.mul_le_mul (show q - 1 ≤ 4294967296 by omega) (show Y % 4294967296 ≤ 4294967295 by omega) (by omega) (by omega : (0 : Int) ≤ 4294967296)
                 omega)
               omega
             rw [hdig2]
             refine ex ?_
             refine sq ?_
             refine rg ?_
             refine st (h := O) ?_
             refine st (h := suM) ?_
             refine st (h := O) ?_
             refine st (h := suA) ?_
             iterate 9 (refine st (h := O) ?_)
             refine st (h := suShr s rfl (hb := rfl) (hn := by simp [IntKind.bits]; omega)) ?_
             iterate 2 (refine st (h := O) ?_)
             refine nl ?_
             refine rt ⟨?_, rfl⟩
             have eT : IntKind.u64.wrap (IntKind.u64.wrap (IntKind.u64.wrap (R * 4294967296) + n0) - IntKind.u64.wrap ((R * 4294967296 + n0) / Y * Y)) = (R * 4294967296 + n0) % Y := by
               simp only [wrapu]
               rw [Int.mul_comm ((R * 4294967296 + n0) / Y) Y]
               generalize Y * ((R * 4294967296 + n0) / Y) = t at *
               omega
             rw [eT, hend1, hend2]
            ·refine sk ?_
             refine bk ?_
             refine bk2 (_) (_) (by exact ⟨rfl, rfl, trivial⟩) (by exact ⟨rfl, rfl, rfl, rfl, rfl, rfl, rfl, trivial⟩) (by exact trivial) ?_ ?_
             · omega
             · exact ⟨by omega, by omega, he'', by omega, by omega⟩
           ·have hdig2 : q = (R * 4294967296 + n0) / Y := by
              have := dig_lo hYs (by omega) hqe' (un1 := n0) (by omega)
              omega
            rw [hdig2]
            refine ex ?_
            refine sq ?_
            refine rg ?_
            refine st (h := O) ?_
            refine st (h := suM) ?_
            refine st (h := O) ?_
            refine st (h := suA) ?_
            iterate 9 (refine st (h := O) ?_)
            refine st (h := suShr s rfl (hb := rfl) (hn := by simp [IntKind.bits]; omega)) ?_
            iterate 2 (refine st (h := O) ?_)
            refine nl ?_
            refine rt ⟨?_, rfl⟩
            have eT : IntKind.u64.wrap (IntKind.u64.wrap (IntKind.u64.wrap (R * 4294967296) + n0) - IntKind.u64.wrap ((R * 4294967296 + n0) / Y * Y)) = (R * 4294967296 + n0) % Y := by
              simp only [wrapu]
              rw [Int.mul_comm ((R * 4294967296 + n0) / Y) Y]
              generalize Y * ((R * 4294967296 + n0) / Y) = t at *
              omega
            rw [eT, hend1, hend2]
        ·refine sk ?_
         refine bk ?_
         refine bk2 (_) (_) (by exact ⟨rfl, rfl, trivial⟩) (by exact ⟨rfl, rfl, rfl, rfl, rfl, rfl, rfl, trivial⟩) (by exact trivial) ?_ ?_
         · omega
         · exact ⟨by omega, by omega, he', by omega, by omega⟩
       ·have hdig : q = (U * 4294967296 + n1) / Y := by
          have := dig_lo hYs (by omega) hqe (un1 := n1) (by omega)
          omega
        rw [hdig]
        refine ex ?_
        refine sq ?_
        refine rg ?_
        iterate 9 (refine st (h := O) ?_)
        refine nl ?_
        refine sq ?_
        have eR : IntKind.u64.wrap (IntKind.u64.wrap (IntKind.u64.wrap (U * 4294967296) + n1) - IntKind.u64.wrap ((U * 4294967296 + n1) / Y * Y)) = (U * 4294967296 + n1) % Y := by
          simp only [wrapu]
          rw [Int.mul_comm ((U * 4294967296 + n1) / Y) Y]
          generalize Y * ((U * 4294967296 + n1) / Y) = t at *
          omega
        rw [eR]
        clear eR
        generalize hRR : (U * 4294967296 + n1) % Y = R at *
        generalize hQQ : (U * 4294967296 + n1) / Y = Q1 at *
        have hmq := Int.mul_ediv_add_emod R (Y / 4294967296)
        have hmq0 := Int.emod_nonneg R (show Y / 4294967296 ≠ 0 by omega)
        have hmq1 := Int.emod_lt_of_pos R (show 0 < Y / 4294967296 by omega)
        have hw1 := Int.ediv_nonneg hR0 (show 0 ≤ Y / 4294967296 by omega)
        have hw2 := Int.ediv_le_self (Y / 4294967296) hR0
        have hcm2 : R / (Y / 4294967296) * (Y / 4294967296) = Y / 4294967296 * (R / (Y / 4294967296)) := Int.mul_comm _ _
        have hcm3 : 0 ≤ R / (Y / 4294967296) * (Y / 4294967296) := Int.mul_nonneg hw1 (by omega)
        have hV := dig_lt (u := R) (un1 := n0) (Y := Y) (by omega) hR1 hn0a.2
        have hV0 := dig_nonneg (u := R) (un1 := n0) (Y := Y) (by omega) hR0 hn0a.1
        have hv1 := dig_top (n := n0) hYs (by omega) (by omega) hR0 hn0a.2
        have hv2 := dig_guess hYs (by omega) (by omega) hR1
        have hdn := Int.mul_ediv_add_emod (R * 4294967296 + n0) Y
        have hT0 := Int.emod_nonneg (R * 4294967296 + n0) (show Y ≠ 0 by omega)
        have hT1 := Int.emod_lt_of_pos (R * 4294967296 + n0) (show 0 < Y by omega)
        refine rg ?_
        iterate 2 (refine st (h := O) ?_)
        refine st (h := suQ) ?_
        refine st (h := O) ?_
        refine nl ?_
        refine sq ?_
        refine rg ?_
        iterate 3 (refine st (h := O) ?_)
        refine st (h := suM) ?_
        refine st (h := suS) ?_
        refine st (h := O) ?_
        refine nl ?_
        refine sq ?_
        refine bl ?_
        refine J.loop2 (α := Int) (β := Int) (fun q rh => (R * 4294967296 + n0) / Y ≤ q ∧ q ≤ 4294967297 ∧ q * (Y / 4294967296) + rh = R ∧ 0 ≤ rh ∧ rh < 4294967296) (fun q rh => [(18, .int .u64 q), (16, .int .u64 rh)]) [(2, _), (8, _), (9, _), (10, _), (14, _), (15, _), (17, _)] (fun q rh => []) [] (fun q rh => (8589934592 - rh).toNat) (_) (_) (by exact ⟨rfl, rfl, trivial⟩) (by exact ⟨rfl, rfl, rfl, rfl, rfl, rfl, rfl, trivial⟩) (by exact trivial) ?_ ?_
        · exact ⟨hv1, hv2, by omega, by omega, by omega⟩
        ·intro q rh L1 K1 e1 e2 hI
         dsimp only [apV, apR, List.cons_append, List.nil_append] at e1 e2
         subst e1 e2
         obtain ⟨hqa', hqb', hqe', hr0', hr1'⟩ := hI
         have hb' := mulq_bd (q := q) (y := Y % 4294967296) (by omega) hqb' (by omega) (by omega)
         have he'' : (q - 1) * (Y / 4294967296) + (rh + Y / 4294967296) = R := by
           rw [Int.sub_mul, Int.one_mul]; omega
         iterate 2 (refine sq ?_)
         refine rg ?_
         iterate 3 (refine st (h := O) ?_)
         refine gD (fun g104 => ?_) (fun g104 => ?_)
         ·have hlt3 : (R * 4294967296 + n0) / Y < q := by omega
          iterate 8 (refine sp ?_)
          refine st (h := O) ?_
          refine nl ?_
          refine cT ?_
          refine sk ?_
          refine bl ?_
          refine sq ?_
          refine rg ?_
          refine st (h := O) ?_
          refine st (h := suS) ?_
          refine st (h := O) ?_
          refine nl ?_
          refine sq ?_
          refine rg ?_
          iterate 2 (refine st (h := O) ?_)
          refine st (h := suA) ?_
          refine st (h := O) ?_
          refine nl ?_
          refine sq ?_
          refine rg ?_
          iterate 2 (refine st (h := O) ?_)
          refine nl ?_
          refine cD (fun c6 => ?_) (fun c6 => ?_)
          ·have hdig2 : q - 1 = (R * 4294967296 + n0) / Y := by
             have := dig_lo hYs (by omega) he'' (un1 := n0) (by
               have := Int.mul_le_mul (show q - 1 ≤ 4294967296 by omega) (show Y % 4294967296 ≤ 4294967295 by omega) (by omega) (by omega : (0 : Int) ≤ 4294967296)
               omega)
             omega
           rw [hdig2]
           refine ex ?_
           refine sq ?_
           refine rg ?_
           refine st (h := O) ?_
           refine st (h := suM) ?_
           refine st (h := O) ?_
           refine st (h := suA) ?_
           iterate 9 (refine st (h := O) ?_)
           refine st (h := suShr s rfl (hb := rfl) (hn := by simp [IntKind.bits]; omega)) ?_
           iterate 2 (refine st (h := O) ?_)
           refine nl ?_
           refine rt ⟨?_, rfl⟩
           have eT : IntKind.u64.wrap (IntKind.u64.wrap (IntKind.u64.wrap (R * 4294967296) + n0) - IntKind.u64.wrap ((R * 4294967296 + n0) / Y * Y)) = (R * 4294967296 + n0) % Y := by
             simp only [wrapu]
             rw [Int.mul_comm ((R * 4294967296 + n0) / Y) Y]
             generalize Y * ((R * 4294967296 + n0) / Y) = t at *
             omega
           rw [eT, hend1, hend2]
          ·refine sk ?_
           refine bk ?_
           refine bk2 (_) (_) (by exact ⟨rfl, rfl, trivial⟩) (by exact ⟨rfl, rfl, rfl, rfl, rfl, rfl, rfl, trivial⟩) (by exact trivial) ?_ ?_
           · omega
           · exact ⟨by omega, by omega, he'', by omega, by omega⟩
         ·refine sg (h := O) ?_
          refine sg (h := O) ?_
          refine sg (h := suM) ?_
          refine sg (h := O) ?_
          refine sg (h := suM) ?_
          refine sg (h := O) ?_
          refine sg (h := suA) ?_
          refine sg (h := O) ?_
          refine st (h := O) ?_
          refine nl ?_
          refine cD (fun c5 => ?_) (fun c5 => ?_)
          ·have hlt3 : (R * 4294967296 + n0) / Y < q := dig_hi hYs (by omega) hqe' (by omega)
           refine sk ?_
           refine bl ?_
           refine sq ?_
           refine rg ?_
           refine st (h := O) ?_
           refine st (h := suS) ?_
           refine st (h := O) ?_
           refine nl ?_
           refine sq ?_
           refine rg ?_
           iterate 2 (refine st (h := O) ?_)
           refine st (h := suA) ?_
           refine st (h := O) ?_
           refine nl ?_
           refine sq ?_
           refine rg ?_
           iterate 2 (refine st (h := O) ?_)
           refine nl ?_
           refine cD (fun c6 => ?_) (fun c6 => ?_)
           ·have hdig2 : q - 1 = (R * 4294967296 + n0) / Y := by
              have := dig_lo hYs (by omega) he'' (un1 := n0) (by
                have := Int.mul_le_mul (show q - 1 ≤ 4294967296 by omega) (show Y % 4294967296 ≤ 4294967295 by omega) (by omega) (by omega : (0 : Int) ≤ 4294967296)
                omega)
              omega
            rw [hdig2]
            refine ex ?_
            refine sq ?_
            refine rg ?_
            refine st (h := O) ?_
            refine st (h := suM) ?_
            refine st (h := O) ?_
            refine st (h := suA) ?_
            iterate 9 (refine st (h := O) ?_)
            refine st (h := suShr s rfl (hb := rfl) (hn := by simp [IntKind.bits]; omega)) ?_
            iterate 2 (refine st (h := O) ?_)
            refine nl ?_
            refine rt ⟨?_, rfl⟩
            have eT : IntKind.u64.wrap (IntKind.u64.wrap (IntKind.u64.wrap (R * 4294967296) + n0) - IntKind.u64.wrap ((R * 4294967296 + n0) / Y * Y)) = (R * 4294967296 + n0) % Y := by
              simp only [wrapu]
              rw [Int.mul_comm ((R * 4294967296 + n0) / Y) Y]
              generalize Y * ((R * 4294967296 + n0) / Y) = t at *
              omega
            rw [eT, hend1, hend2]
           ·refine sk ?_
            refine bk ?_
            refine bk2 (_) (_) (by exact ⟨rfl, rfl, trivial⟩) (by exact ⟨rfl, rfl, rfl, rfl, rfl, rfl, rfl, trivial⟩) (by exact trivial) ?_ ?_
            · omega
            · exact ⟨by omega, by omega, he'', by omega, by omega⟩
          ·have hdig2 : q = (R * 4294967296 + n0) / Y := by
             have := dig_lo hYs (by omega) hqe' (un1 := n0) (by omega)
             omega
           rw [hdig2]
           refine ex ?_
           refine sq ?_
           refine rg ?_
           refine st (h := O) ?_
           refine st (h := suM) ?_
           refine st (h := O) ?_
           refine st (h := suA) ?_
           iterate 9 (refine st (h := O) ?_)
           refine st (h := suShr s rfl (hb := rfl) (hn := by simp [IntKind.bits]; omega)) ?_
           iterate 2 (refine st (h := O) ?_)
           refine nl ?_
           refine rt ⟨?_, rfl⟩
           have eT : IntKind.u64.wrap (IntKind.u64.wrap (IntKind.u64.wrap (R * 4294967296) + n0) - IntKind.u64.wrap ((R * 4294967296 + n0) / Y * Y)) = (R * 4294967296 + n0) % Y := by
             simp only [wrapu]
             rw [Int.mul_comm ((R * 4294967296 + n0) / Y) Y]
             generalize Y * ((R * 4294967296 + n0) / Y) = t at *
             omega
           rw [eT, hend1, hend2]
def quoS (a b c : Int) : Int × Int × Bool × Bool := if amt a * amt b / 18446744073709551616 ≥ c then (0, 0, false, false) else (amt a * amt b / c, amt a * amt b % c, decide (a < 0) != decide (b < 0), decide (amt a * amt b / c ≤ 1099511627777))
theorem quotient_C (F : Mem) (a b c : Int) (ha : i64ok a) (hb : i64ok b) (hc : 1 ≤ c) (hc1 : c ≤ 9223372036854775807) : C0 Try.prog 74 [.int .i64 a, .int .i64 b, .int .i64 c] F
    (.tuple #[.int .u64 (quoS a b c).1, .int .u64 (quoS a b c).2.1, .bool (quoS a b c).2.2.1, .bool (quoS a b c).2.2.2]) := by
  have hp := prod_lt ha hb
  have h1 := amt_bd ha; have h2 := amt_bd hb
  have hs : ∀ G, C0 Try.prog 79 [.int .i64 a] G (.int .u64 (amt a)) := fun G => amount_C G a ha
  have ht : ∀ G, C0 Try.prog 79 [.int .i64 b] G (.int .u64 (amt b)) := fun G => amount_C G b hb
  have hpr : ∀ G, C0 Try.prog 78 [.int .u64 (amt a), .int .u64 (amt b)] G (.tuple #[.int .u64 (amt a * amt b / 18446744073709551616), .int .u64 (amt a * amt b % 18446744073709551616)]) := fun G => Mul64_C G _ _ h1.1 (by omega) h2.1 (by omega)
  have hdv : ¬ amt a * amt b / 18446744073709551616 ≥ c → ∀ G, C0 Try.prog 80 [.int .u64 (amt a * amt b / 18446744073709551616), .int .u64 (amt a * amt b % 18446744073709551616), .int .u64 c] G (.tuple #[.int .u64 (amt a * amt b / c), .int .u64 (amt a * amt b % c)]) := fun h G => by
    have := Div64_C G (amt a * amt b / 18446744073709551616) (amt a * amt b % 18446744073709551616) c (by omega) (by omega) (by omega) (by omega) (by omega)
    rwa [show amt a * amt b / 18446744073709551616 * 18446744073709551616 + amt a * amt b % 18446744073709551616 = amt a * amt b from by omega] at this
  unfold i64ok at ha hb
  unfold quoS
  generalize amt a = x at *
  generalize amt b = y at *
  generalize x * y = P at *
  refine C.go hT Try.func74 Try.ntmps74 ?_
  refine sq ?_
  refine rg ?_
  iterate 4 (refine st (h := O) ?_)
  refine nl ?_
  refine sq ?_
  refine rg ?_
  refine st (h := O) ?_
  refine cl (h := by exact fun ι hV hl => hs _) ?_
  refine st (h := O) ?_
  refine cl (h := by exact fun ι hV hl => ht _) ?_
  refine cl (h := by exact fun ι hV hl => hpr _) ?_
  iterate 5 (refine st (h := O) ?_)
  refine nl ?_
  iterate 2 (refine sq ?_)
  refine rg ?_
  iterate 2 (refine st (h := O) ?_)
  refine st (h := suC) ?_
  refine st (h := O) ?_
  refine nl ?_
  refine cD (fun c0 => ?_) (fun c0 => ?_)
  ·refine sq ?_
   refine rg ?_
   iterate 4 (refine st (h := O) ?_)
   refine nl ?_
   refine rt ⟨?_, rfl⟩
   rw [if_pos c0]
  ·refine sk ?_
   refine sq ?_
   refine rg ?_
   iterate 3 (refine st (h := O) ?_)
   refine st (h := suC) ?_
   refine cl (h := by exact fun ι hV hl => hdv (by omega) _) ?_
   iterate 5 (refine st (h := O) ?_)
   refine nl ?_
   refine sq ?_
   refine rg ?_
   iterate 6 (refine st (h := O) ?_)
   refine st (h := sbNe) ?_
   iterate 6 (refine st (h := O) ?_)
   refine nl ?_
   refine rt ⟨?_, rfl⟩
   rw [if_neg c0]
theorem keptS_out {x : Int} {b : Bool} (h : b = false ∨ ¬ (-1099511627776 ≤ x ∧ x ≤ 1099511627776)) : keptS x b = (0, false) := by
  unfold keptS
  rcases h with h | h
  · rw [if_neg (by rw [h]; decide)]
  · split
    · exact keepS_out h
    · rfl
theorem Floor_C (F : Mem) (a b c : Int) (ha : i64ok a) (hb : i64ok b) (hc : i64ok c) : C0 Try.prog 61 [.int .i64 a, .int .i64 b, .int .i64 c] F (.tuple #[.int .i64 (floorS a b c).1, .bool (floorS a b c).2]) := by
  by_cases c1 : c < 1
  · rw [floorS, if_pos c1]
    refine C.go hT Try.func61 Try.ntmps61 ?_
    refine sq ?_
    refine rg ?_
    iterate 2 (refine st (h := O) ?_)
    refine nl ?_
    iterate 2 (refine sq ?_)
    refine rg ?_
    iterate 2 (refine st (h := O) ?_)
    refine nl ?_
    refine cD (fun c0 => ?_) (fun c0 => ?_)
    ·refine sq ?_
     refine rg ?_
     iterate 2 (refine st (h := O) ?_)
     refine nl ?_
     exact rt ⟨rfl, rfl⟩
    ·exact absurd c1 c0
  · rw [floorS, if_neg c1]
    have hp := prod_lt ha hb
    have hab := ab_of a b
    have hn := neg_div (P := amt a * amt b) (c := c) (by omega)
    have hq0 : 0 ≤ amt a * amt b / c := Int.ediv_nonneg hp.1 (by omega)
    have hr0 := Int.emod_nonneg (amt a * amt b) (by omega : c ≠ 0)
    have hr1 := Int.emod_lt_of_pos (amt a * amt b) (by omega : 0 < c)
    have hbig := big_q (P := amt a * amt b) (c := c) (by omega)
    have hqt : ∀ G, _ := fun G => quotient_C G a b c ha hb (by omega) hc.2
    have hqu : quoS a b c = if amt a * amt b / 18446744073709551616 ≥ c then (0, 0, false, false) else (amt a * amt b / c, amt a * amt b % c, decide (a < 0) != decide (b < 0), decide (amt a * amt b / c ≤ 1099511627777)) := rfl
    have hu : ¬ amt a * amt b / 18446744073709551616 ≥ c → amt a * amt b / c < 18446744073709551616 := fun h => by
      rw [Int.ediv_lt_iff_lt_mul (by omega)]; omega
    unfold i64ok at ha hb hc
    have hv : a * b / c = if (decide (a < 0) != decide (b < 0)) = true then -(amt a * amt b / c + (if 0 < amt a * amt b % c then 1 else 0)) else amt a * amt b / c + 0 := by
      rw [hab]
      by_cases h : (decide (a < 0) != decide (b < 0)) = true
      · rw [if_pos h, if_pos h, hn]
        by_cases h2 : amt a * amt b % c = 0
        · rw [if_pos h2, if_neg (by omega), Int.add_zero]
        · rw [if_neg h2, if_pos (by omega)]; omega
      · rw [if_neg h, if_neg h, Int.add_zero]
    rw [hv]
    clear hv hn hab
    generalize (decide (a < 0) != decide (b < 0)) = s at *
    generalize amt a * amt b / c = q at *
    generalize amt a * amt b % c = r at *
    generalize amt a * amt b / 18446744073709551616 = ph at *
    by_cases hcase : ph ≥ c
    · rw [if_pos hcase] at hqu
      rw [hqu] at hqt
      dsimp only at hqt
      have hq := hbig hcase
      have hout : keepS (if s = true then -(q + (if 0 < r then 1 else 0)) else q + 0) = (0, false) := by
        refine keepS_out ?_
        (repeat' split) <;> omega
      rw [hout]
      refine C.go hT Try.func61 Try.ntmps61 ?_
      refine sq ?_
      refine rg ?_
      iterate 2 (refine st (h := O) ?_)
      refine nl ?_
      iterate 2 (refine sq ?_)
      refine rg ?_
      iterate 2 (refine st (h := O) ?_)
      refine nl ?_
      refine cD (fun c0 => ?_) (fun c0 => ?_)
      ·exact absurd c0 c1
      ·refine sk ?_
       refine sq ?_
       refine rg ?_
       iterate 3 (refine st (h := O) ?_)
       refine cl (h := by exact fun ι hV hl => hqt _) ?_
       iterate 9 (refine st (h := O) ?_)
       refine nl ?_
       iterate 2 (refine sq ?_)
       refine rg ?_
       iterate 2 (refine st (h := O) ?_)
       refine gB (fun g24 => ?_) (fun g24 => ?_)
       ·refine sg (h := O) ?_
        refine sg (h := O) ?_
        refine st (h := O) ?_
        refine nl ?_
        refine cD (fun c1 => ?_) (fun c1 => ?_)
        ·refine rg ?_
         iterate 3 (refine st (h := O) ?_)
         refine nl ?_
         refine sq ?_
         refine rg ?_
         iterate 2 (refine st (h := O) ?_)
         refine cl (h := by exact fun ι hV hl => signed_C _ _ _) ?_
         refine st (h := O) ?_
         refine cl (h := by exact fun ι hV hl => kept_C _ _ _) ?_
         iterate 4 (refine st (h := O) ?_)
         refine nl ?_
         refine rt ⟨?_, rfl⟩
         rw [keptS_out (.inl rfl)]
        ·refine sk ?_
         refine sq ?_
         refine rg ?_
         iterate 2 (refine st (h := O) ?_)
         refine cl (h := by exact fun ι hV hl => signed_C _ _ _) ?_
         refine st (h := O) ?_
         refine cl (h := by exact fun ι hV hl => kept_C _ _ _) ?_
         iterate 4 (refine st (h := O) ?_)
         refine nl ?_
         refine rt ⟨?_, rfl⟩
         rw [keptS_out (.inl rfl)]
       ·refine sp ?_
        refine sp ?_
        refine st (h := O) ?_
        refine nl ?_
        refine cF ?_
        refine sk ?_
        refine sq ?_
        refine rg ?_
        iterate 2 (refine st (h := O) ?_)
        refine cl (h := by exact fun ι hV hl => signed_C _ _ _) ?_
        refine st (h := O) ?_
        refine cl (h := by exact fun ι hV hl => kept_C _ _ _) ?_
        iterate 4 (refine st (h := O) ?_)
        refine nl ?_
        refine rt ⟨?_, rfl⟩
        rw [keptS_out (.inl rfl)]
    · rw [if_neg hcase] at hqu
      rw [hqu] at hqt
      dsimp only at hqt
      have hq64 := hu hcase
      have hfin : ∀ (up : Bool) (d : Int), (d = if up = true then 1 else 0) → (if s = true then -(q + (if 0 < r then 1 else 0)) else q + 0) = (if s = true then -(q + d) else q + d) → keptS (sgnD (IntKind.u64.wrap (q + d)) s) (decide (q ≤ 1099511627777)) = keepS (if s = true then -(q + (if 0 < r then 1 else 0)) else q + 0) := fun up d hd he => by
        rw [he]
        by_cases hle : q ≤ 1099511627777
        · have hd1 : 0 ≤ d ∧ d ≤ 1 := by rw [hd]; split <;> omega
          rw [wrapu, show (q + d) % 18446744073709551616 = q + d from by omega, sgnD_in (by omega) (by omega), keptS, if_pos (by simpa using hle)]
        · have hd1 : 0 ≤ d ∧ d ≤ 1 := by rw [hd]; split <;> omega
          rw [keptS_out (.inl (by simpa using hle)), keepS_out]
          split <;> omega
      refine C.go hT Try.func61 Try.ntmps61 ?_
      refine sq ?_
      refine rg ?_
      iterate 2 (refine st (h := O) ?_)
      refine nl ?_
      iterate 2 (refine sq ?_)
      refine rg ?_
      iterate 2 (refine st (h := O) ?_)
      refine nl ?_
      refine cD (fun c0 => ?_) (fun c0 => ?_)
      ·exact absurd c0 c1
      ·refine sk ?_
       refine sq ?_
       refine rg ?_
       iterate 3 (refine st (h := O) ?_)
       refine cl (h := by exact fun ι hV hl => hqt _) ?_
       iterate 9 (refine st (h := O) ?_)
       refine nl ?_
       iterate 2 (refine sq ?_)
       refine rg ?_
       iterate 2 (refine st (h := O) ?_)
       refine gB (fun g24 => ?_) (fun g24 => ?_)
       ·refine sg (h := O) ?_
        refine sg (h := O) ?_
        refine st (h := O) ?_
        refine nl ?_
        refine cD (fun c1 => ?_) (fun c1 => ?_)
        ·refine rg ?_
         iterate 3 (refine st (h := O) ?_)
         refine nl ?_
         refine sq ?_
         refine rg ?_
         iterate 2 (refine st (h := O) ?_)
         refine cl (h := by exact fun ι hV hl => signed_C _ _ _) ?_
         refine st (h := O) ?_
         refine cl (h := by exact fun ι hV hl => kept_C _ _ _) ?_
         iterate 4 (refine st (h := O) ?_)
         refine nl ?_
         refine rt ⟨?_, rfl⟩
         first
           | (have e := hfin true 1 (by simp) (by rw [if_pos g24, if_pos g24, if_pos c1])
              first | rw [← e] | (rw [← e, wrapu, show (q + 1) % 18446744073709551616 = q + 1 from by omega]))
           | (have e := hfin false 0 (by simp) (by rw [if_pos g24, if_pos g24, if_neg c1])
              rw [← e, wrapu, show (q + 0) % 18446744073709551616 = q from by omega])
           | (have e := hfin false 0 (by simp) (by rw [g24]; rfl)
              rw [← e, wrapu, show (q + 0) % 18446744073709551616 = q from by omega])
        ·refine sk ?_
         refine sq ?_
         refine rg ?_
         iterate 2 (refine st (h := O) ?_)
         refine cl (h := by exact fun ι hV hl => signed_C _ _ _) ?_
         refine st (h := O) ?_
         refine cl (h := by exact fun ι hV hl => kept_C _ _ _) ?_
         iterate 4 (refine st (h := O) ?_)
         refine nl ?_
         refine rt ⟨?_, rfl⟩
         first
           | (have e := hfin true 1 (by simp) (by rw [if_pos g24, if_pos g24, if_pos c1])
              first | rw [← e] | (rw [← e, wrapu, show (q + 1) % 18446744073709551616 = q + 1 from by omega]))
           | (have e := hfin false 0 (by simp) (by rw [if_pos g24, if_pos g24, if_neg c1])
              rw [← e, wrapu, show (q + 0) % 18446744073709551616 = q from by omega])
           | (have e := hfin false 0 (by simp) (by rw [g24]; rfl)
              rw [← e, wrapu, show (q + 0) % 18446744073709551616 = q from by omega])
       ·refine sp ?_
        refine sp ?_
        refine st (h := O) ?_
        refine nl ?_
        refine cF ?_
        refine sk ?_
        refine sq ?_
        refine rg ?_
        iterate 2 (refine st (h := O) ?_)
        refine cl (h := by exact fun ι hV hl => signed_C _ _ _) ?_
        refine st (h := O) ?_
        refine cl (h := by exact fun ι hV hl => kept_C _ _ _) ?_
        iterate 4 (refine st (h := O) ?_)
        refine nl ?_
        refine rt ⟨?_, rfl⟩
        first
          | (have e := hfin true 1 (by simp) (by rw [if_pos g24, if_pos g24, if_pos c1])
             first | rw [← e] | (rw [← e, wrapu, show (q + 1) % 18446744073709551616 = q + 1 from by omega]))
          | (have e := hfin false 0 (by simp) (by rw [if_pos g24, if_pos g24, if_neg c1])
             rw [← e, wrapu, show (q + 0) % 18446744073709551616 = q from by omega])
          | (have e := hfin false 0 (by simp) (by rw [g24]; rfl)
             rw [← e, wrapu, show (q + 0) % 18446744073709551616 = q from by omega])
end Go.Proofs.Ytnkddjdmpnghmaa.Am
namespace Go.Proofs.Ytnkddjdmpnghmaa.Am
set_option linter.unusedSimpArgs false
set_option linter.unusedVariables false
open Go Go.RowKit
section
variable {F : Mem} {K : Own} {L : Slots}
theorem siShl {t t' : TypeId} {x y : Operand} {j : IntKind} {a b v : Int} (n : Nat) (hx : evO L x = some (.int .i64 a) := by rfl) (hy : evO L y = some (.int j b) := by rfl) (hv : a * 2 ^ n = v := by rfl) (hb : b = n := by first | rfl | omega) (hn : n ≤ 64 := by decide) (h0 : -9223372036854775808 ≤ v := by omega) (h1 : v < 9223372036854775808 := by omega) : SD Try.prog F K L (.binOp .shl t x y t') (.int .i64 v) := by
  subst hb
  refine (sdSl hx hy (by omega)).cast ?_
  rw [show min ((n : Int)).toNat IntKind.i64.bits = n from by rw [Int.toNat_natCast]; exact Nat.min_eq_left hn, hv, wrap_i64 h0 h1]
end
/-- the number of two bytes at a place -/
def two (s : ByteArray) (i : Nat) : Int := byteAt s i * 256 + byteAt s (i + 1)
def u2 (s : ByteArray) (i : Int) : Int := if i < 0 ∨ (s.size : Int) - 2 < i then 0 else two s i.toNat
end Go.Proofs.Ytnkddjdmpnghmaa.Am
namespace Go.Proofs.Ytnkddjdmpnghmaa.Am
set_option linter.unusedSimpArgs false
set_option linter.unusedVariables false
open Go Go.RowKit
section
variable {X : Cx} {F : Mem} {L : Slots} {K : Own} {s : List SI} {ops : Array Oper} {o : Oper} {l : List Oper}
abbrev PlainRows (Y : List (Nat × Row)) : Prop := ∀ x ∈ Y, ∀ u ∈ x.2.cs, plain1 u = true
theorem St.release {ι : Nat → Nat} {w : World} {t : Nat} {r : Row} (h : St F ι ((t, r) :: K) w) (hp : ∀ v ∈ r.cs, plain1 v = true) : St (F.add [(ι t, r)]) ι K w := by
  have hrc : r.c ι = r.c fun _ => 0 := Row.c_flat _ _ hp
  have h0 := h.own _ List.mem_cons_self
  refine ⟨h.below, ?_, fun x hx => h.own x (List.mem_cons_of_mem _ hx), fun x hx => ?_⟩
  · have := h.nodup
    simp only [Mem.add, List.map_cons, List.cons_append, List.nil_append] at this ⊢
    exact (List.Perm.nodup_iff List.perm_middle).2 this
  · rcases List.mem_cons.1 hx with rfl | hx
    · refine ⟨h0.1, ?_⟩
      have := h0.2.1
      rw [hrc] at this
      exact this
    · exact h.ext x hx
theorem JL.release {d t n c off : Nat} {r : Row} (Lk : Slots) (Kk : Own)
    (h : ∀ b, PlainRows [(b, r)] → New F [(b, r)] → JL X ops l s (F.add [(b, r)]) ((d, .slice (some ⟨b, off, none⟩) n c) :: Lk) Kk)
    (hd : L.lookup d = some (.slice (some ⟨t, off, some 0⟩) n c) := by rfl) (hr : K.lookup t = some r := by rfl) (hfl : (r.flat || r.cs.all plain1) = true := by rfl) (hLk : LSub Lk L := by repeat' first | exact trivial | refine And.intro rfl ?_) (hKk : KSub Kk K := by repeat' first | exact trivial | refine And.intro rfl ?_)
    (hKt : (Kk.all fun x => x.1 != t) = true := by rfl) (hdk : (Lk.all fun x => x.1 != d) = true := by rfl) : JL X ops l s F L K := by
  intro ι a w hF hS
  have hp : ∀ v ∈ r.cs, plain1 v = true := by
    simp only [Bool.or_eq_true] at hfl
    rcases hfl with hfl | hfl
    · exact (hS.own _ (lookup_mem hr)).2.2 hfl
    · exact List.all_eq_true.1 hfl
  have hS1 : St F ι ((t, r) :: Kk) w := hS.weak ⟨hr, hKt, hKk⟩
  have hS2 := hS1.release hp
  have hpr : PlainRows [(ι t, r)] := fun x hx => by rw [List.mem_singleton.1 hx]; exact hp
  refine h (ι t) hpr (hS2.new_ hpr) ι a w ?_ hS2
  refine ⟨hF.size, hF.defers, fun s v hv => ?_⟩
  rw [List.lookup_cons] at hv
  split at hv
  · rename_i e
    have e1 : s = d := by simpa using e
    subst e1
    simp only [Option.some.injEq] at hv
    subst hv
    have := hF.slot s _ hd
    simpa using this
  · exact hF.slot s v (hLk.get s v hv)
theorem add_add (F : Mem) (Y Z : List (Nat × Row)) : (F.add Y).add Z = F.add (Z ++ Y) := by simp [Mem.add]
theorem Rd.app_left {G : Mem} {Y Z : List (Nat × Row)} (h : Rd G (Z ++ Y)) : Rd G Z := fun x hx => h x (List.mem_append_left _ hx)
theorem Rd.app_right {G : Mem} {Y Z : List (Nat × Row)} (h : Rd G (Z ++ Y)) : Rd G Y := fun x hx => h x (List.mem_append_right _ hx)
theorem PlainRows.app {Y Z : List (Nat × Row)} (hy : PlainRows Y) (hz : PlainRows Z) : PlainRows (Z ++ Y) := fun x hx => by
  rcases List.mem_append.1 hx with hx | hx
  · exact hz x hx
  · exact hy x hx
theorem PlainRows.nil : PlainRows [] := fun x hx => by cases hx
/-- a literal slice behind a guard -/
theorem slg {Θ : Tab} {ty el : TypeId} {parts : Array (Nat × Operand)} {d n j e : Nat} {want : Bool} {ti tj : Ty} {ps : List (Nat × List Value)} {cs : List Value} (hk : JL X ops l s F ((d, .slice (some ⟨d, 0, some 0⟩) n n) :: L) ((d, { elem := el, cs := cs, room := n * tj.size, flat := false }) :: K))
    (hg : o.guard = some (j, want) := by rfl) (hj' : (ops[j]?).bind (·.dst) = some e := by rfl) (hb : L.lookup e = some (.bool want) := by rfl) (ho : o.op = .buildSlice ty n parts := by rfl) (hd : o.dst = some d := by rfl) (hN : d < X.N := by exact Nat.le_of_ble_eq_true rfl) (hθ : tabOk X.P Θ = true := by exact hT) (hi : Θ.lookup ty = some ti := by rfl) (hki : ti.k = .slice el := by rfl) (hj : Θ.lookup el = some tj := by rfl)
    (hp : partsL (evO L) parts.toList = some ps := by rfl) (h1 : ps.all (fun q => q.2.all (·.oneCell')) = true := by rfl) (hf : fillL (fun i => some (i * tj.size, tj.size)) (zer tj n) ps = some cs := by rfl) (hs : n * tj.size ≤ 16777216 := by exact Nat.le_of_ble_eq_true rfl) (hz0 : tj.zero.length = tj.size := by rfl) (hz1 : 0 < tj.size := by exact Nat.le_of_ble_eq_true rfl)
    (hL : ntL d L = true := by rfl) (hK : ntK d K = true := by rfl) (hD : X.D.contains d = false := by rfl) : JL X ops (o :: l) s F L K :=
  JL.stepG hg hj' hb (Go1.slit hθ ho hd hN hi hki hj hp h1 hf hs hz0 hz1 hL hK hD hk)
/-- append of nothing to an own row -/
theorem ap0 {Θ : Tab} {ty ty' el : TypeId} {sx x : Operand} {d n c u : Nat} {ti ti' tj : Ty} {xv : Value} (hk : JL X ops l s F ((d, .slice (some ⟨u, 0, some 0⟩) n c) :: L) K)
    (hg : o.guard = none := by rfl) (ho : o.op = .call ⟨.builtin .append, #[sx, x], #[ty, ty']⟩ := by rfl) (hd : o.dst = some d := by rfl) (hN : d < X.N := by exact Nat.le_of_ble_eq_true rfl) (hθ : tabOk X.P Θ = true := by exact hT)
    (hi : Θ.lookup ty = some ti := by rfl) (hki : ti.k = .slice el := by rfl) (hi' : Θ.lookup ty' = some ti' := by rfl) (hk' : slB ti'.k = true := by rfl) (hj : Θ.lookup el = some tj := by rfl)
    (hs : evO L sx = some (.slice (some ⟨u, 0, some 0⟩) n c) := by rfl) (hx : evO L x = some xv := by rfl) (happ : App X.P F K tj.size xv 0 [] := by first | exact App.nil _ _ | exact App.slice rfl (by simp) (by simp)) (hnc : n ≤ c := by first | exact Nat.le_of_ble_eq_true rfl | omega) : JL X ops (o :: l) s F L K := by
  refine JL.step hg ?_
  intro ι a w hF hS
  have tye := tab_ty hθ hj
  obtain ⟨dd, hdd, hkd⟩ := (tab_ty hθ hi).und
  rw [hki] at hkd
  cases dd <;> try (simp [kindB] at hkd; done)
  simp only [kindB, beq_iff_eq] at hkd
  subst hkd
  rename_i el
  obtain ⟨d', hdd', hkd'⟩ := (tab_ty hθ hi').und
  have hd' : ∀ k, d' ≠ .int k := by
    intro k e
    subst e
    cases hq : ti'.k <;> rw [hq] at hk' hkd' <;> first | (simp [slB] at hk'; done) | simp [kindB] at hkd'
  have hlen := happ.lenOf ι w
  have hc0 := happ.cells ι w hS
  have hrun := run_append_in (ty := o.type) (a := ⟨ι u, 0, none⟩) (n := n) (c := c) (xv := cV ι xv) (w' := w) hdd hdd' hd' (tye.run_size w) hlen hc0 (by omega) (by simp [storeCells])
  refine ⟨ι, w, cV ι (.slice (some ⟨u, 0, some 0⟩) n c), F, _, K, .inl ?_, by rw [hd]; exact hF.put hN _, hS, fun _ _ => rfl, hk⟩
  obtain ⟨dst, op, type, pos, after, guard⟩ := o
  simp only at ho hrun
  subst ho
  have e1 := hF.ev hs
  have e2 := hF.ev hx
  simp only [cV_slice, cA_own] at e1
  simp only [execOp, resolve, Sem.run_bind, Sem.run_pure, Result.andThen_ok, invoke, builtin]
  simp only [List.map_toArray, List.map_cons, List.map_nil, e1, e2, hrun, Result.andThen_ok, Sem.run_pure, cV_slice, cA_own, Nat.add_zero]
theorem J.gloop2 {c : Code} {α β : Type} (ok : List (Nat × Row) → α → β → Prop) (Lf : α → β → Slots) (kp : Slots) (Kf : α → β → Own) (kk : Own) (μ : α → β → Nat) (x0 : α) (y0 : β) (hL : LSub (Lf x0 y0) L) (hk : LSub kp L) (hK : KSub (Kf x0 y0 ++ kk) K) (h0 : ok [] x0 y0)
    (round : ∀ Y x y L1 K1, L1 = Lf x y ++ kp → K1 = Kf x y ++ kk → ok Y x y → PlainRows Y → New F Y → J X (.code c :: .back (fun F' L' K' => ∃ Y' x' y', μ x' y' < μ x y ∧ ok Y' x' y' ∧ PlainRows Y' ∧ F' = F.add Y' ∧ LSub (Lf x' y') L' ∧ LSub kp L' ∧ KSub (Kf x' y' ++ kk) K') :: s) (F.add Y) L1 K1) : J X (.code (.loop c) :: s) F L K :=
  J.loop (α := List (Nat × Row) × α × β) (fun p F' L' K' => ok p.1 p.2.1 p.2.2 ∧ PlainRows p.1 ∧ F' = F.add p.1 ∧ LSub (Lf p.2.1 p.2.2 ++ kp) L' ∧ KSub (Kf p.2.1 p.2.2 ++ kk) K') (fun p => μ p.2.1 p.2.2) ([], x0, y0) ⟨h0, PlainRows.nil, rfl, hL.app hk, hK⟩ (by
    rintro ⟨Y, x, y⟩ F' L' K' ⟨h1, hp, rfl, h2, h3⟩
    refine WP.weak h2 h3 ?_
    intro ι a w hF hS
    refine wp_mono (round Y x y _ _ rfl rfl h1 hp (hS.new_ hp) ι a w hF hS) fun e a' w' hl => ?_
    obtain ⟨ι1, F1, L1, K1, g1, g2, g3, g4⟩ := hl
    refine ⟨ι1, F1, L1, K1, g1, g2, g3, ?_⟩
    cases e with
    | normal =>
      obtain ⟨Y', x', y', q1, q2, q7, q3, q4, q5, q6⟩ := g4
      exact ⟨⟨Y', x', y'⟩, q1, q2, q7, q3, q4.app q5, q6⟩
    | _ => exact g4)
theorem gbk2 {α β : Type} {F0 : Mem} {ok : List (Nat × Row) → α → β → Prop} {Lf : α → β → Slots} {kp : Slots} {Kf : α → β → Own} {kk : Own} {μ : α → β → Nat} {m : Nat} (Y' : List (Nat × Row)) (x' : α) (y' : β) (hL : LSub (Lf x' y') L) (hk : LSub kp L) (hK : KSub (Kf x' y' ++ kk) K) (hFe : F = F0.add Y') (hp : PlainRows Y') (hμ : μ x' y' < m) (hok : ok Y' x' y') :
    J X (.back (fun F' L' K' => ∃ Y' x' y', μ x' y' < m ∧ ok Y' x' y' ∧ PlainRows Y' ∧ F' = F0.add Y' ∧ LSub (Lf x' y') L' ∧ LSub kp L' ∧ KSub (Kf x' y' ++ kk) K') :: s) F L K := ⟨Y', x', y', hμ, hok, hp, hFe, hL, hk, hK⟩
theorem J.gloop4 {c : Code} {α β γ δ : Type} (ok : List (Nat × Row) → α → β → γ → δ → Prop) (Lf : α → β → γ → δ → Slots) (kp : Slots) (Kf : α → β → γ → δ → Own) (kk : Own) (μ : α → β → γ → δ → Nat) (x0 : α) (y0 : β) (z0 : γ) (u0 : δ) (hL : LSub (Lf x0 y0 z0 u0) L) (hk : LSub kp L) (hK : KSub (Kf x0 y0 z0 u0 ++ kk) K) (h0 : ok [] x0 y0 z0 u0)
    (round : ∀ Y x y z u L1 K1, L1 = Lf x y z u ++ kp → K1 = Kf x y z u ++ kk → ok Y x y z u → PlainRows Y → New F Y → J X (.code c :: .back (fun F' L' K' => ∃ Y' x' y' z' u', μ x' y' z' u' < μ x y z u ∧ ok Y' x' y' z' u' ∧ PlainRows Y' ∧ F' = F.add Y' ∧ LSub (Lf x' y' z' u') L' ∧ LSub kp L' ∧ KSub (Kf x' y' z' u' ++ kk) K') :: s) (F.add Y) L1 K1) : J X (.code (.loop c) :: s) F L K :=
  J.loop (α := List (Nat × Row) × α × β × γ × δ) (fun p F' L' K' => ok p.1 p.2.1 p.2.2.1 p.2.2.2.1 p.2.2.2.2 ∧ PlainRows p.1 ∧ F' = F.add p.1 ∧ LSub (Lf p.2.1 p.2.2.1 p.2.2.2.1 p.2.2.2.2 ++ kp) L' ∧ KSub (Kf p.2.1 p.2.2.1 p.2.2.2.1 p.2.2.2.2 ++ kk) K') (fun p => μ p.2.1 p.2.2.1 p.2.2.2.1 p.2.2.2.2) ([], x0, y0, z0, u0) ⟨h0, PlainRows.nil, rfl, hL.app hk, hK⟩ (by
    rintro ⟨Y, x, y, z, u⟩ F' L' K' ⟨h1, hp, rfl, h2, h3⟩
    refine WP.weak h2 h3 ?_
    intro ι a w hF hS
    refine wp_mono (round Y x y z u _ _ rfl rfl h1 hp (hS.new_ hp) ι a w hF hS) fun e a' w' hl => ?_
    obtain ⟨ι1, F1, L1, K1, g1, g2, g3, g4⟩ := hl
    refine ⟨ι1, F1, L1, K1, g1, g2, g3, ?_⟩
    cases e with
    | normal =>
      obtain ⟨Y', x', y', z', u', q1, q2, q7, q3, q4, q5, q6⟩ := g4
      exact ⟨⟨Y', x', y', z', u'⟩, q1, q2, q7, q3, q4.app q5, q6⟩
    | _ => exact g4)
theorem gbk4 {α β γ δ : Type} {F0 : Mem} {ok : List (Nat × Row) → α → β → γ → δ → Prop} {Lf : α → β → γ → δ → Slots} {kp : Slots} {Kf : α → β → γ → δ → Own} {kk : Own} {μ : α → β → γ → δ → Nat} {m : Nat} (Y' : List (Nat × Row)) (x' : α) (y' : β) (z' : γ) (u' : δ) (hL : LSub (Lf x' y' z' u') L) (hk : LSub kp L) (hK : KSub (Kf x' y' z' u' ++ kk) K) (hFe : F = F0.add Y') (hp : PlainRows Y') (hμ : μ x' y' z' u' < m) (hok : ok Y' x' y' z' u') :
    J X (.back (fun F' L' K' => ∃ Y' x' y' z' u', μ x' y' z' u' < m ∧ ok Y' x' y' z' u' ∧ PlainRows Y' ∧ F' = F0.add Y' ∧ LSub (Lf x' y' z' u') L' ∧ LSub kp L' ∧ KSub (Kf x' y' z' u' ++ kk) K') :: s) F L K := ⟨Y', x', y', z', u', hμ, hok, hp, hFe, hL, hk, hK⟩
end
section
variable {F : Mem} {K : Own} {L : Slots}
end
section
variable {F : Mem} {L : Slots} {K : Own} {s : List SI}
/-- the end: all of the call's own rows are left, and those that were handed over -/
theorem outX.allY {Q : Value → List (Nat × Row) → Prop} {v : Value} {Y : List (Nat × Row)} (hp : PlainRows Y) (h : ∀ ι, Val ι K (F.add Y) → Q (rV ι v) ((K.map fun x => (ι x.1, x.2.r ι)) ++ Y)) : outX F Q v (F.add Y) K :=
  ⟨Y, rfl, hp, fun ι hv => ⟨(K.map fun x => (ι x.1, x.2.r ι)) ++ Y, fun x hx => hx, by
    have := hv.nodup
    simp only [Mem.add, List.map_append] at this
    rw [← List.append_assoc] at this
    have := (List.nodup_append.1 this).1
    simpa [List.map_map, Function.comp_def] using this, h ι hv⟩⟩
theorem rtY {Θ : Tab} {rs : List ResultVar} {Q : Value → List (Nat × Row) → Prop} {v : Value} {P : Program} {N : Nat} {D : List Nat} {Y : List (Nat × Row)} (hp : PlainRows Y) (h : ∀ ι, Val ι K (F.add Y) → Q (rV ι v) ((K.map fun x => (ι x.1, x.2.r ι)) ++ Y)) (hr : resV Θ (F.add Y) L K rs = some v := by rfl) : J ⟨P, N, D, retR Θ rs (outX F Q)⟩ (.code .ret :: s) (F.add Y) L K := J.ret ⟨v, hr, outX.allY hp h⟩
end
theorem flat_at {xs : List (List Value)} {sz i j : Nat} (h : ∀ x ∈ xs, x.length = sz) (hj : j < sz) : xs.flatten[i * sz + j]? = (xs[i]?).bind (·[j]?) := by
  induction xs generalizing i with
  | nil => simp
  | cons x xs ih =>
    have hx := h x List.mem_cons_self
    rw [List.flatten_cons]
    cases i with
    | zero =>
      rw [Nat.zero_mul, Nat.zero_add, List.getElem?_append_left (by omega)]
      simp
    | succ i =>
      rw [List.getElem?_append_right (by rw [Nat.add_mul]; omega), show (i + 1) * sz + j - x.length = i * sz + j from by rw [Nat.add_mul]; omega, ih (fun y hy => h y (List.mem_cons_of_mem _ hy))]
      simp
theorem lookN_of {F : Mem} {a : Addr} : ∀ {cs : List Value}, (∀ j v, cs[j]? = some v → look F (addA a j) = some v) → lookN F a cs.length = some cs := by
  intro cs
  induction cs generalizing a with
  | nil => intro _; rfl
  | cons v cs ih =>
    intro h
    have h0 := h 0 v rfl
    rw [addA_zero] at h0
    have h1 := ih (a := addA a 1) (fun j u hj => by
      have := h (j + 1) u (by simpa using hj)
      rw [← this, addA_addA, Nat.add_comm 1 j])
    simp only [List.length_cons, lookN]
    rw [show look F a = some v from h0, h1]
theorem lookN_ints {F : Mem} {b off : Nat} {xs : List Int} (h : ∀ i x, xs[i]? = some x → look F ⟨b, off + i, none⟩ = some (.int .i64 x)) : lookN F ⟨b, off, none⟩ xs.length = some (ivs xs) := by
  have := lookN_of (F := F) (a := ⟨b, off, none⟩) (cs := ivs xs) (fun j v hv => by
    unfold ivs at hv
    rw [List.getElem?_map] at hv
    cases hx : xs[j]? with
    | none => simp [hx] at hv
    | some x =>
      simp only [hx, Option.map_some, Option.some.injEq] at hv
      subst hv
      exact h j x hx)
  rwa [ivs_length] at this
end Go.Proofs.Ytnkddjdmpnghmaa.Am
namespace Go.Proofs.Ytnkddjdmpnghmaa.Am
set_option linter.unusedSimpArgs false
set_option linter.unusedVariables false
open Go Go.RowKit
section
variable {X : Cx} {F F0 : Mem} {L : Slots} {K K0 : Own} {s : List SI} {l : List Oper} {b : Nat} {D : List Nat} {p : List (Nat × Bool)} {listed : Array Bool}
end
section
variable {P : Program} {N : Nat} {D : List Nat} {Θ : Tab} {F : Mem} {K : Own} {L : Slots} {T : Pst} (hθ : tabOk P Θ = true)
include hθ
end
section
variable {X : Cx} {F F0 : Mem} {L : Slots} {K K0 : Own} {s : List SI} {ops : Array Oper} {o : Oper} {l : List Oper} {Θ : Tab}
end
section
variable {X : Cx} {F F0 : Mem} {L : Slots} {K K0 : Own} {s : List SI} {l : List Oper} {b : Nat} {D : List Nat} {p : List (Nat × Bool)} {listed : Array Bool}
end
def JS (X : Cx) (l : List Oper) (b : Nat) (F0 : Mem) (K0 : Own) (D : List Nat) (p : List (Nat × Bool)) (listed : Array Bool) (s : List SI) (i : Nat) : Pst := fun F L K =>
  ∀ (ι0 ι : Nat → Nat) (a : Act) (w : World), Fr X.N ι L a → St F ι K w → (∀ u ∈ D, ι u = ι0 u) → JDok X l K0 D →
    wpOp X.P l.toArray (Lft X.N X.D ι0 (sem X s)) i (fun a' w' => ((listed.setIfInBounds i true).getD b false = false → St F0 ι0 K0 w') ∧ wpAnyB X.P .any l.toArray (Lft X.N X.D ι0 (sem X s)) b (fun w => St F0 ι0 K0 w) (pl p) (listed.setIfInBounds i true) a' w') a w
section
variable {X : Cx} {F F0 : Mem} {L : Slots} {K K0 : Own} {s : List SI} {l : List Oper} {b : Nat} {D : List Nat} {p : List (Nat × Bool)} {listed : Array Bool}
theorem JD.alt {i j k n : Nat} (q1 q2 : List Nat) (h1 : JS X l b F0 K0 D (pm q1) listed s i F L K) (h2 : JS X l b F0 K0 D (pm q2) listed s j F L K) (hr : (Region.ready .any l.toArray listed == [i, j]) = true := by kernel_rfl)
    (hk : ¬ k < 5000 := by omega) (hk2 : k < 10000 := by omega) (hkn : k - 5000 = n + 1 := by rfl) (e1 : pl (pm q1) = n := by kernel_rfl) (e2 : pl (pm q2) = n := by kernel_rfl) : JD X l b F0 K0 D ((k, false) :: p) listed s F L K := by
  intro hp hok ι0 ι a w hF hS hag hS0
  have e : pl ((k, false) :: p) = n + 1 := by
    unfold pl
    rw [if_neg hk, if_pos hk2, hkn]
  rw [e]
  have hr' : Region.ready .any l.toArray listed = [i, j] := by simpa using hr
  refine ⟨fun h0 => (by rw [hr'] at h0; cases h0), fun m hm => ?_⟩
  rw [hr'] at hm
  simp only [List.mem_cons, List.not_mem_nil, or_false] at hm
  rcases hm with rfl | rfl
  · have := h1 ι0 ι a w hF hS hag hok
    rw [e1] at this
    exact this
  · have := h2 ι0 ι a w hF hS hag hok
    rw [e2] at this
    exact this
theorem JS.op {i : Nat} {o : Oper} (ho : l[i]? = some o) (hg : o.guard = none) (hp : planOk l b (listed.setIfInBounds i true) p = true) (h : Go1 X.P X.N D F L K o (fun F' L' K' => Kept b F0 K0 (listed.setIfInBounds i true) F' K' ∧ JD X l b F0 K0 D p (listed.setIfInBounds i true) s F' L' K')) : JS X l b F0 K0 D p listed s i F L K := by
  intro ι0 ι a w hF hS hag hok
  obtain ⟨ι1, w1, v, F1, L1, K1, hrun, h1, h2, h3, h4, h5⟩ := h ι a w hF hS
  have hag1 : ∀ u ∈ D, ι1 u = ι0 u := fun u hu => (h3 u hu).trans (hag u hu)
  have ho' : l.toArray[i]? = some o := by simpa using ho
  unfold wpOp
  simp only [ho', Region.wanted, hg, if_true]
  left
  have hk := And.intro (fun hl => h4.st (D := D) h2 hag1 hok.tgk hl) (h5 hp hok ι0 ι1 _ w1 h1 h2 hag1 (fun hl => h4.st h2 hag1 hok.tgk hl))
  simp only [Oper.wp]
  rcases hrun with hr | ⟨hr, rfl⟩
  · rw [hr]; exact hk
  · rw [hr]; exact hk
theorem JS.callC_ {i : Nat} {o : Oper} {f d : Nat} {args : Array Operand} {ts : Array TypeId} {vs : List Value} {Q : Value → List (Nat × Row) → Prop} (ho : l[i]? = some o) (hw : ∀ ι a, Fr X.N ι L a → Region.wanted o (yielded l.toArray a.tmps) = true) (hp : planOk l b (listed.setIfInBounds i true) p = true) (hop : o.op = .call ⟨.value (.func f), args, ts⟩) (hd : o.dst = some d) (hN : d < X.N)
    (hargs : mapE (evO L) args.toList = some vs) (hfn : fnOk X.P f = true) (hkp : Kept b F0 K0 (listed.setIfInBounds i true) F K) (h : ∀ ι, Val ι K F → F.le (push ι K F) → C X.P f (vs.map (rV ι)) (push ι K F) Q)
    (hk : ∀ v Y, Q v Y → (∀ κ, rV κ v = v) → (∀ x ∈ Y, ∀ u ∈ x.2.cs, plain1 u = true) → New F Y → JD X l b F0 K0 D p (listed.setIfInBounds i true) s (F.add Y) ((d, v) :: L) K) : JS X l b F0 K0 D p listed s i F L K := by
  intro ι0 ι a w hF hS hag hok
  have ho' : l.toArray[i]? = some o := by simpa using ho
  unfold wpOp
  simp only [ho', hw ι a hF, if_true]
  left
  simp only [Oper.wp, callee_run (e := evO L) (fun x u hu => hF.ev hu) hop rfl rfl hargs hfn w, Oper.upon]
  have hc := h ι hS.val hS.val.le ι w (hS.push ι)
  rw [map_cV_rV] at hc
  simp only [List.nil_append, List.append_nil]
  refine hc.mono fun e w' ⟨v, Y, h1, h2, h5, h3, h4⟩ => ?_
  subst h1
  have hS' := hS.pull h3
  have hkp' : Kept b F0 K0 (listed.setIfInBounds i true) (F.add Y) K := by
    rcases hkp with hkp | ⟨hkp, Z, rfl⟩
    · exact .inl hkp
    · exact .inr ⟨hkp, Y ++ Z, by simp [Mem.add]⟩
  have hst : (listed.setIfInBounds i true).getD b false = false → St F0 ι0 K0 w' := fun hl => hkp'.st hS' hag hok.tgk hl
  rw [hd]
  have := hF.put hN v
  exact ⟨hst, hk v Y h4 h2 h5 (hS'.new_ h5) hp hok ι0 ι _ w' this hS' hag hst⟩
/-- a call that leaves rows, as one of two -/
theorem jclC {i f d : Nat} {o : Oper} {args : Array Operand} {ts : Array TypeId} {vs : List Value} {Q : Value → List (Nat × Row) → Prop}
    (hk : ∀ v Y, Q v Y → (∀ κ, rV κ v = v) → (∀ x ∈ Y, ∀ u ∈ x.2.cs, plain1 u = true) → New F Y → JD X l b F0 K0 D p (listed.setIfInBounds i true) s (F.add Y) ((d, v) :: L) K)
    (hkp : Kept b F0 K0 (listed.setIfInBounds i true) F K := by first | exact Kept.same | exact Kept.all) (hp : planOk l b (listed.setIfInBounds i true) p = true := by kernel_rfl) (ho : l[i]? = some o := by rfl) (hg : o.guard = none := by rfl) (hop : o.op = .call ⟨.value (.func f), args, ts⟩ := by rfl) (hd : o.dst = some d := by rfl) (hN : d < X.N := by exact Nat.le_of_ble_eq_true rfl) (hargs : mapE (evO L) args.toList = some vs := by rfl) (hfn : fnOk X.P f = true := by kernel_rfl) (h : ∀ ι, Val ι K F → F.le (push ι K F) → C X.P f (vs.map (rV ι)) (push ι K F) Q) : JS X l b F0 K0 D p listed s i F L K :=
  JS.callC_ ho (fun ι a _ => by simp [Region.wanted, hg]) hp hop hd hN hargs hfn hkp h hk
theorem jal {Θ : Tab} {i : Nat} {o : Oper} {e : TypeId} {d : Nat} {ti : Ty} (hk : JD X l b F0 K0 D p (listed.setIfInBounds i true) s F ((d, .pointer (some ⟨d, 0, some 0⟩)) :: L) ((d, { elem := e, cs := ti.zero, room := ti.zero.length, flat := false }) :: K))
    (hp : planOk l b (listed.setIfInBounds i true) p = true := by kernel_rfl)
    (ho' : l[i]? = some o := by rfl) (hg : o.guard = none := by rfl) (ho : o.op = .alloc e := by rfl) (hd : o.dst = some d := by rfl) (hN : d < X.N := by exact Nat.le_of_ble_eq_true rfl) (hθ : tabOk X.P Θ = true := by exact hT) (hi : Θ.lookup e = some ti := by rfl) (h1 : ti.zero.all (·.oneCell') = true := by rfl)
    (hL : ntL d L = true := by rfl) (hK : ntK d K = true := by rfl) (hD : D.contains d = false := by rfl)
    (hkp : Kept b F0 K0 (listed.setIfInBounds i true) F ((d, { elem := e, cs := ti.zero, room := ti.zero.length, flat := false }) :: K) := by first | exact Kept.all | exact Kept.k0 | exact Kept.kY) : JS X l b F0 K0 D p listed s i F L K :=
  JS.op ho' hg hp (Go1.alloc hθ ho hd hN hi h1 hL hK hD ⟨hkp, hk⟩)
theorem jbx {i : Nat} {o : Oper} {e : TypeId} {x : Operand} {d : Nat} {v : Value} (hk : JD X l b F0 K0 D p (listed.setIfInBounds i true) s F ((d, .pointer (some ⟨d, 0, some 0⟩)) :: L) ((d, { elem := e, cs := cellsL v, room := (cellsL v).length, flat := false }) :: K))
    (hp : planOk l b (listed.setIfInBounds i true) p = true := by kernel_rfl)
    (ho' : l[i]? = some o := by rfl) (hg : o.guard = none := by rfl) (ho : o.op = .box e x := by rfl) (hd : o.dst = some d := by rfl) (hN : d < X.N := by exact Nat.le_of_ble_eq_true rfl) (hx : evO L x = some v := by rfl) (hv : okV v = true := by rfl)
    (hL : ntL d L = true := by rfl) (hK : ntK d K = true := by rfl) (hD : D.contains d = false := by rfl)
    (hkp : Kept b F0 K0 (listed.setIfInBounds i true) F ((d, { elem := e, cs := cellsL v, room := (cellsL v).length, flat := false }) :: K) := by first | exact Kept.all | exact Kept.k0 | exact Kept.kY) : JS X l b F0 K0 D p listed s i F L K :=
  JS.op ho' hg hp (Go1.box ho hd hN hx hv hL hK hD ⟨hkp, hk⟩)
end
section
variable {F : Mem} {K K0 : Own} {b : Nat} {listed : Array Bool}
theorem Kept.kYY {Y Z : List (Nat × Row)} (h : KSub K0 K := by repeat' first | exact trivial | refine And.intro rfl ?_) : Kept b F K0 listed ((F.add Y).add Z) K := .inr ⟨h, Z ++ Y, add_add _ _ _⟩
theorem Kept.kY3 {Y Z U : List (Nat × Row)} (h : KSub K0 K := by repeat' first | exact trivial | refine And.intro rfl ?_) : Kept b F K0 listed (((F.add Y).add Z).add U) K := .inr ⟨h, U ++ Z ++ Y, by rw [add_add, add_add]⟩
end
end Go.Proofs.Ytnkddjdmpnghmaa.Am
namespace Go.Proofs.Ytnkddjdmpnghmaa.Am
set_option linter.unusedSimpArgs false
set_option linter.unusedVariables false
open Go Go.RowKit
def rAx (T : List Nat) (ι : Nat → Nat) (a : Addr) : Addr := match a.spot with
  | some 0 => if T.contains a.block then a else ⟨ι a.block, a.off, none⟩
  | _ => a
def r0x (T : List Nat) (ι : Nat → Nat) : Value → Value
  | .pointer (some a) => .pointer (some (rAx T ι a))
  | .slice (some a) n c => .slice (some (rAx T ι a)) n c
  | v => v
def r1x (T : List Nat) (ι : Nat → Nat) : Value → Value
  | .func fn first cap => .func fn ⟨first.toList.map (r0x T ι)⟩ ⟨cap.toList.map (r0x T ι)⟩
  | v => r0x T ι v
def r2x (T : List Nat) (ι : Nat → Nat) : Value → Value
  | .agg cs => .agg ⟨cs.toList.map (r1x T ι)⟩
  | v => r1x T ι v
def rVx (T : List Nat) (ι : Nat → Nat) : Value → Value
  | .tuple vs => .tuple ⟨vs.toList.map (r2x T ι)⟩
  | v => r2x T ι v
section
variable {T : List Nat} {ι : Nat → Nat}
theorem cA_rAx (a : Addr) : cA ι (rAx T ι a) = cA ι a := by
  obtain ⟨b, o, s⟩ := a
  rcases s with _ | _ | s
  · rfl
  · simp only [rAx]
    split <;> rfl
  · rfl
theorem c0_r0x (v : Value) : c0 ι (r0x T ι v) = c0 ι v := by
  cases v with
  | pointer a => cases a with
    | none => rfl
    | some a => simp only [c0, r0x, cA_rAx]
  | slice a n c => cases a with
    | none => rfl
    | some a => simp only [c0, r0x, cA_rAx]
  | _ => rfl
theorem c1_r1x (v : Value) : c1 ι (r1x T ι v) = c1 ι v := by
  cases v with
  | func fn x y =>
    have aux : ∀ l : List Value, (l.map (r0x T ι)).map (c0 ι) = l.map (c0 ι) := fun l => by
      rw [List.map_map]
      exact List.map_congr_left fun v _ => c0_r0x v
    simp only [r1x, c1, aux]
  | pointer a => cases a with
    | none => rfl
    | some a => exact c0_r0x (.pointer (some a))
  | slice a n c => cases a with
    | none => rfl
    | some a => exact c0_r0x (.slice (some a) n c)
  | _ => rfl
theorem c2_r2x (v : Value) : c2 ι (r2x T ι v) = c2 ι v := by
  cases v with
  | agg cs =>
    have aux : ∀ l : List Value, (l.map (r1x T ι)).map (c1 ι) = l.map (c1 ι) := fun l => by
      rw [List.map_map]
      exact List.map_congr_left fun v _ => c1_r1x v
    simp only [r2x, c2, aux]
  | func fn x y => exact c1_r1x (.func fn x y)
  | pointer a => cases a with
    | none => rfl
    | some a => exact c1_r1x (.pointer (some a))
  | slice a n c => cases a with
    | none => rfl
    | some a => exact c1_r1x (.slice (some a) n c)
  | _ => rfl
theorem cV_rVx (v : Value) : cV ι (rVx T ι v) = cV ι v := by
  cases v with
  | tuple vs =>
    have aux : ∀ l : List Value, (l.map (r2x T ι)).map (c2 ι) = l.map (c2 ι) := fun l => by
      rw [List.map_map]
      exact List.map_congr_left fun v _ => c2_r2x v
    simp only [rVx, cV, aux]
  | agg cs => exact c2_r2x (.agg cs)
  | func fn x y => exact c2_r2x (.func fn x y)
  | pointer a => cases a with
    | none => rfl
    | some a => exact c2_r2x (.pointer (some a))
  | slice a n c => cases a with
    | none => rfl
    | some a => exact c2_r2x (.slice (some a) n c)
  | _ => rfl
theorem map_cV_rVx (vs : List Value) : (vs.map (rVx T ι)).map (cV ι) = vs.map (cV ι) := by
  rw [List.map_map]
  exact List.map_congr_left fun v _ => cV_rVx v
end
def CA (P : Program) (T0 T : List Nat) (f : FuncId) (args : List Value) (F : Mem) (K : Own) (Q : Value → List (Nat × Row) → Own → Prop) : Prop :=
  ∀ (ι : Nat → Nat) (w : World), St F ι K w → Calls P f (args.map (cV ι)).toArray w fun e w' => ∃ (ι' : Nat → Nat) (v : Value) (Y : List (Nat × Row)) (K' : Own), e = .returned (cV ι' v) ∧ (∀ t ∈ T0, ι' t = ι t) ∧ tgK T K' = true ∧ tgV T v = true ∧ PlainRows Y ∧ St (F.add Y) ι' K' w' ∧ Q v Y K'
theorem CA.mono {P : Program} {T0 T : List Nat} {f : FuncId} {args : List Value} {F : Mem} {K : Own} {Q Q' : Value → List (Nat × Row) → Own → Prop} (h : CA P T0 T f args F K Q) (hq : ∀ v Y K', Q v Y K' → Q' v Y K') : CA P T0 T f args F K Q' :=
  fun ι w hS => (h ι w hS).mono fun _ _ ⟨ι', v, Y, K', h1, h2, h3, h4, h5, h6, h7⟩ => ⟨ι', v, Y, K', h1, h2, h3, h4, h5, h6, hq _ _ _ h7⟩
/-- what is left behind such a call -/
def outA (F : Mem) (T : List Nat) (Q : Value → List (Nat × Row) → Own → Prop) (v : Value) (F' : Mem) (K' : Own) : Prop :=
  ∃ Y K1, F' = F.add Y ∧ PlainRows Y ∧ KSub K1 K' ∧ tgK T K1 = true ∧ tgV T v = true ∧ Q v Y K1
theorem CA.enter {P : Program} {Θ : Tab} (hT : tabOk P Θ = true) {T0 T : List Nat} {f : FuncId} {fn : Func} {c : Code} {args : List Value} {F : Mem} {K : Own} {Q : Value → List (Nat × Row) → Own → Prop} {n : Nat} {rs : List ResultVar} (hf : P.funcs[f]? = some fn) (hb : fn.body = some c) (hn : fn.ntmps = n) (hrs : fn.results.toList = rs) (hl : args.length ≤ n)
    (h : J ⟨P, n, T0, retR Θ rs (outA F T Q)⟩ [.code c] F (argL 0 args) K) : CA P T0 T f args F K Q := by
  intro ι w hS
  have := AC.enter hT hf hb hn hrs hl h ι w hS
  refine this.mono fun e w' ⟨ι', F', K', v, h1, h2, h3, Y, K1, h4, h5, h6, h7, h8, h9⟩ => ?_
  subst h4
  exact ⟨ι', v, Y, K1, h1, h3, h7, h8, h5, h2.weak h6, h9⟩
theorem CA.go {P : Program} {Θ : Tab} {T0 T : List Nat} {f : FuncId} {fn : Func} {c : Code} {args : List Value} {F : Mem} {K : Own} {Q : Value → List (Nat × Row) → Own → Prop} {n : Nat} {rs : List ResultVar} (hT : tabOk P Θ = true) (hf : P.funcs[f]? = some fn) (hn : fn.ntmps = n)
    (h : J ⟨P, n, T0, retR Θ rs (outA F T Q)⟩ [.code c] F (argL 0 args) K) (hb : fn.body = some c := by rfl) (hrs : fn.results.toList = rs := by rfl) (hl : args.length ≤ n := by exact Nat.le_of_ble_eq_true rfl) : CA P T0 T f args F K Q := CA.enter hT hf hb hn hrs hl h
section
variable {F F0 : Mem} {L : Slots} {K : Own} {s : List SI}
/-- the end of such a function -/
theorem outA.mk {T : List Nat} {Q : Value → List (Nat × Row) → Own → Prop} {v : Value} {Y : List (Nat × Row)} (K1 : Own) (hp : PlainRows Y) (hK : KSub K1 K) (h1 : tgK T K1 = true) (h2 : tgV T v = true) (hq : Q v Y K1) : outA F T Q v (F.add Y) K := ⟨Y, K1, rfl, hp, hK, h1, h2, hq⟩
theorem rtA {Θ : Tab} {rs : List ResultVar} {T : List Nat} {Q : Value → List (Nat × Row) → Own → Prop} {v : Value} {P : Program} {N : Nat} {D : List Nat} (K1 : Own) (hq : Q v [] K1) (hr : resV Θ F L K rs = some v := by rfl) (hK : KSub K1 K := by repeat' first | exact trivial | refine And.intro rfl ?_) (h1 : tgK T K1 = true := by rfl) (h2 : tgV T v = true := by rfl) : J ⟨P, N, D, retR Θ rs (outA F T Q)⟩ (.code .ret :: s) F L K :=
  J.ret ⟨v, hr, [], K1, rfl, fun x hx => by (cases hx), hK, h1, h2, hq⟩
theorem reA {Θ : Tab} {rs : List ResultVar} {T : List Nat} {Q : Value → List (Nat × Row) → Own → Prop} {v : Value} {P : Program} {N : Nat} {D : List Nat} (K1 : Own) (hq : Q v [] K1) (hr : resV Θ F L K rs = some v := by rfl) (hK : KSub K1 K := by repeat' first | exact trivial | refine And.intro rfl ?_) (h1 : tgK T K1 = true := by rfl) (h2 : tgV T v = true := by rfl) : J ⟨P, N, D, retR Θ rs (outA F T Q)⟩ [] F L K :=
  J.fin ⟨v, hr, [], K1, rfl, fun x hx => by (cases hx), hK, h1, h2, hq⟩
theorem reAY {Θ : Tab} {rs : List ResultVar} {T : List Nat} {Q : Value → List (Nat × Row) → Own → Prop} {v : Value} {P : Program} {N : Nat} {D : List Nat} {Y : List (Nat × Row)} (K1 : Own) (hp : PlainRows Y) (hq : Q v Y K1) (hr : resV Θ (F.add Y) L K rs = some v := by rfl) (hK : KSub K1 K := by repeat' first | exact trivial | refine And.intro rfl ?_) (h1 : tgK T K1 = true := by rfl) (h2 : tgV T v = true := by rfl) : J ⟨P, N, D, retR Θ rs (outA F T Q)⟩ [] (F.add Y) L K :=
  J.fin ⟨v, hr, Y, K1, rfl, hp, hK, h1, h2, hq⟩
end
/-- some of the rows are told as the world's -/
theorem St.pushOn {ι : Nat → Nat} {K1 K2 : Own} {F : Mem} {w : World} (h : St F ι (K1 ++ K2) w) : St (Am.push ι K2 F) ι K1 w := by
  refine ⟨h.below, ?_, fun x hx => h.own x (List.mem_append_left _ hx), fun x hx => ?_⟩
  · have := h.nodup
    simpa [Am.push, Function.comp_def] using this
  · rcases List.mem_append.1 hx with hx | hx
    · obtain ⟨y, hy, rfl⟩ := List.mem_map.1 hx
      have := h.own y (List.mem_append_right _ hy)
      exact ⟨this.1, by rw [Row.c_r]; exact this.2.1⟩
    · exact h.ext x hx
theorem row_tg {ι κ : Nat → Nat} {D : List Nat} (hk : ∀ u ∈ D, κ u = ι u) {x : Nat × Row} (h : (D.contains x.1 && (x.2.flat || x.2.cs.all (tg1 D))) = true) (hf : x.2.flat = true → ∀ v ∈ x.2.cs, plain1 v = true) : κ x.1 = ι x.1 ∧ x.2.c κ = x.2.c ι := by
  simp only [Bool.and_eq_true, Bool.or_eq_true] at h
  refine ⟨hk _ (by simpa using h.1), ?_⟩
  rcases h.2 with h2 | h2
  · exact Row.c_flat _ _ (hf h2)
  · simp only [Row.c]
    congr 1
    exact List.map_congr_left fun v hv => c1_tg hk (List.all_eq_true.1 h2 v hv)
theorem St.pullOn {ι ι' κ : Nat → Nat} {K1 K2 K' : Own} {F : Mem} {Y : List (Nat × Row)} {w w' : World} {T D : List Nat} (h : St F ι (K1 ++ K2) w) (h' : St ((Am.push ι K2 F).add Y) ι' K' w') (hT : ∀ u ∈ T, κ u = ι' u) (hD : ∀ u ∈ D, κ u = ι u) (h1 : tgK T K' = true) (h2 : tgK D K2 = true) : St (F.add Y) κ (K' ++ K2) w' := by
  have e1 : ∀ x ∈ K', κ x.1 = ι' x.1 ∧ x.2.c κ = x.2.c ι' := fun x hx => row_tg hT (List.all_eq_true.1 h1 x hx) (h'.own x hx).2.2
  have e2 : ∀ x ∈ K2, κ x.1 = ι x.1 ∧ x.2.c κ = x.2.c ι := fun x hx => row_tg hD (List.all_eq_true.1 h2 x hx) (h.own x (List.mem_append_right _ hx)).2.2
  refine ⟨h'.below, ?_, fun x hx => ?_, fun x hx => ?_⟩
  · have hn := h'.nodup
    have m1 : (K'.map fun x => κ x.1) = K'.map fun x => ι' x.1 := List.map_congr_left fun x hx => (e1 x hx).1
    have m2 : (K2.map fun x => κ x.1) = K2.map fun x => ι x.1 := List.map_congr_left fun x hx => (e2 x hx).1
    simp only [Mem.add, Am.push, List.map_append, List.map_map, Function.comp_def, m1, m2] at hn ⊢
    refine (List.Perm.nodup_iff ?_).1 hn
    rw [List.append_assoc]
    refine List.Perm.append_left _ ?_
    rw [← List.append_assoc, ← List.append_assoc]
    exact List.Perm.append_right _ List.perm_append_comm
  · rcases List.mem_append.1 hx with hx | hx
    · obtain ⟨a1, a2⟩ := e1 x hx
      have := h'.own x hx
      rw [a1, a2]
      exact this
    · obtain ⟨a1, a2⟩ := e2 x hx
      have g := h'.ext (ι x.1, x.2.r ι) (List.mem_append_right _ (List.mem_append_left _ (List.mem_map.2 ⟨x, hx, rfl⟩)))
      rw [a1, a2]
      exact ⟨g.1, by have g2 := g.2; rwa [Row.c_r] at g2, (h.own x (List.mem_append_right _ hx)).2.2⟩
  · refine h'.ext x ?_
    rcases List.mem_append.1 hx with hx | hx
    · exact List.mem_append_left _ hx
    · exact List.mem_append_right _ (List.mem_append_right _ hx)
/-- what a caller knows behind such a call -/
theorem CA.frame {P : Program} {T0 T D : List Nat} {f : FuncId} {args : List Value} {F : Mem} {K K1 K2 : Own} {Q : Value → List (Nat × Row) → Own → Prop} (hK : KSub (K1 ++ K2) K) (hDT : (D.all fun t => !T.contains t || T0.contains t) = true) (hK2 : tgK D K2 = true)
    (h : ∀ ι, Val ι K2 F → F.le (push ι K2 F) → CA P T0 T f (args.map (rVx T0 ι)) (push ι K2 F) K1 Q) :
    AC P D f args F K (fun v F' K'' => ∃ Y K', F' = F.add Y ∧ K'' = K' ++ K2 ∧ PlainRows Y ∧ New F Y ∧ Q v Y K') := by
  intro ι w hS0
  have hS := hS0.weak hK
  have hS2 : St F ι K2 w := by
    have hnd := List.nodup_append.1 hS.nodup
    rw [List.map_append] at hnd
    refine ⟨hS.below, List.nodup_append.2 ⟨(List.nodup_append.1 hnd.1).2.1, hnd.2.1, fun a ha b hb => hnd.2.2 a (List.mem_append_right _ ha) b hb⟩, fun x hx => hS.own x (List.mem_append_right _ hx), hS.ext⟩
  have hc := h ι hS2.val hS2.val.le ι w hS.pushOn
  rw [map_cV_rVx] at hc
  refine hc.mono fun e w' ⟨ι', v, Y, K', h1, h2, h3, h4, h5, h6, h7⟩ => ?_
  have hT : ∀ u ∈ T, (fun t => if T.contains t then ι' t else ι t) u = ι' u := fun u hu => by
    have : T.contains u = true := by simpa using hu
    simp only [this, if_true]
  have hD : ∀ u ∈ D, (fun t => if T.contains t then ι' t else ι t) u = ι u := fun u hu => by
    have := List.all_eq_true.1 hDT u hu
    simp only [Bool.or_eq_true, Bool.not_eq_true'] at this
    rcases this with hc | hc
    · simp only [hc, Bool.false_eq_true, if_false]
    · by_cases ht : T.contains u = true
      · simp only [ht, if_true]; exact h2 u (by simpa using hc)
      · simp only [ht, Bool.false_eq_true, if_false]
  have hP := hS.pullOn h6 hT hD h3 hK2
  refine ⟨fun t => if T.contains t then ι' t else ι t, F.add Y, K' ++ K2, v, ?_, hP, hD, Y, K', rfl, rfl, h5, hP.new_ h5, h7⟩
  rw [h1, cV_tg hT h4]
section
variable {X : Cx} {F F0 : Mem} {L : Slots} {K K0 : Own} {s : List SI} {ops : Array Oper} {o : Oper} {l : List Oper}
theorem clA {f d : Nat} {cal : Operand} {args : Array Operand} {ts : Array TypeId} {fst cap : Array Value} {vs : List Value} (T0 T : List Nat) (D : List Nat) (Lk : Slots) (K1 K2 : Own) {Q : Value → List (Nat × Row) → Own → Prop}
    (hk : ∀ v Y K', Q v Y K' → PlainRows Y → New F Y → JL X ops l s (F.add Y) ((d, v) :: Lk) (K' ++ K2))
    (hg : o.guard = none := by rfl) (ho : o.op = .call ⟨.value cal, args, ts⟩ := by rfl) (hd : o.dst = some d := by rfl) (hN : d < X.N := by exact Nat.le_of_ble_eq_true rfl) (hcal : evO L cal = some (.func (.func f) fst cap) := by rfl) (hs : (fst.toList.all s0 && cap.toList.all s0) = true := by rfl) (hargs : mapE (evO L) args.toList = some vs := by rfl) (hfn : fnOk X.P f = true := by kernel_rfl)
    (hLk : LSub Lk L := by repeat' first | exact trivial | refine And.intro rfl ?_) (hKK : KSub (K1 ++ K2) K := by repeat' first | exact trivial | refine And.intro rfl ?_) (hL : (Lk.all fun x => tgV D x.2) = true := by rfl) (hDT : (D.all fun t => !T.contains t || T0.contains t) = true := by rfl) (hXD : (X.D.all fun t => D.contains t) = true := by rfl) (hK2 : tgK D K2 = true := by rfl)
    (h : ∀ ι, Val ι K2 F → F.le (push ι K2 F) → CA X.P T0 T f ((fst.toList ++ vs ++ cap.toList).map (rVx T0 ι)) (push ι K2 F) K1 Q) : JL X ops (o :: l) s F L K := by
  intro ι a w hF hS
  refine wpList_plain hg fun Kc hKc => ?_
  simp only [Oper.wp, callee_run (e := evO L) (fun x u hu => hF.ev hu) ho hcal hs hargs hfn w, Oper.upon]
  refine ((CA.frame hKK hDT hK2 h) ι w hS).mono fun e w' ⟨ι', F', K', v, h1, h2, h3, Y, K3, e1, e2, h4, h5, h6⟩ => ?_
  subst h1 e1 e2
  have hF0 := hF.weak hLk
  have hF' : Fr X.N ι' Lk a := ⟨hF0.size, hF0.defers, fun s v hv => by rw [cV_tg h3 (List.all_eq_true.1 hL _ (lookup_mem hv))]; exact hF0.slot s v hv⟩
  refine hKc _ _ (JL.tr (ι1 := ι') (fun t ht => h3 t (by simpa using List.all_eq_true.1 hXD t ht)) (hk v Y K3 h6 h4 h5 ι' _ w' ?_ h2))
  rw [hd]
  exact hF'.put hN v
/-- a row gets another tag: all that speaks of it is told anew -/
theorem JL.retagP {d t u : Nat} {off : Nat} {r : Row} (Lk : Slots) (Kk : Own) (h : JL X ops l s F ((d, .pointer (some ⟨u, off, some 0⟩)) :: Lk) ((u, r) :: Kk)) (hd : L.lookup d = some (.pointer (some ⟨t, off, some 0⟩)) := by rfl) (hr : K.lookup t = some r := by rfl)
    (hLk : LSub Lk L := by repeat' first | exact trivial | refine And.intro rfl ?_) (hKk : KSub ((t, r) :: Kk) K := by repeat' first | exact trivial | refine And.intro rfl ?_) (hL : ntL u Lk = true := by rfl) (hK : ntK u Kk = true := by rfl) (hru : (r.flat || r.cs.all (nt1 u)) = true := by rfl) (hD : X.D.contains u = false := by rfl) : JL X ops l s F L K := by
  intro ι a w hF hS
  have hS1 := hS.weak hKk
  have hagree : ∀ v ∈ X.D, upd ι u (ι t) v = ι v := fun v hv => upd_ne ι (fun e => by subst e; simp at hD; exact hD hv)
  refine JL.tr hagree (h (upd ι u (ι t)) a w ?_ (hS1.retag hK hru))
  have hF0 := hF.weak hLk
  refine ⟨hF.size, hF.defers, fun s v hv => ?_⟩
  rw [List.lookup_cons] at hv
  split at hv
  · rename_i e
    have e1 : s = d := by simpa using e
    subst e1
    simp only [Option.some.injEq] at hv
    subst hv
    have := hF.slot s _ hd
    simpa [upd_eq] using this
  · have e1 := (hF0.nt (κ := upd ι u (ι t)) (t := u) (fun v hv => upd_ne ι hv) hL).slot s v hv
    exact e1
end
end Go.Proofs.Ytnkddjdmpnghmaa.Am
namespace Go.Proofs.Ytnkddjdmpnghmaa.Am
set_option linter.unusedSimpArgs false
set_option linter.unusedVariables false
open Go Go.RowKit
section
variable {X : Cx} {F : Mem} {L : Slots} {K : Own} {s : List SI} {ops : Array Oper} {o : Oper} {l : List Oper}
theorem ivs_one (xs : List Int) : ∀ v ∈ ivs xs, v.oneCell' = true := fun v hv => by obtain ⟨y, _, rfl⟩ := List.mem_map.1 hv; rfl
theorem St.flat {F : Mem} {ι : Nat → Nat} {K : Own} {w : World} {u : Nat} {r : Row} (h : St F ι ((u, r) :: K) w) (hp : ∀ v ∈ r.cs, plain1 v = true) : St F ι ((u, { r with flat := true }) :: K) w := by
  refine ⟨h.below, h.nodup, fun x hx => ?_, h.ext⟩
  rcases List.mem_cons.1 hx with rfl | hx
  · have := h.own _ List.mem_cons_self
    exact ⟨this.1, this.2.1, fun _ => hp⟩
  · exact h.own x (List.mem_cons_of_mem _ hx)
theorem JL.flat {u : Nat} {r : Row} (hp : ∀ v ∈ r.cs, plain1 v = true) (h : JL X ops l s F L ((u, { r with flat := true }) :: K)) : JL X ops l s F L ((u, r) :: K) := fun ι a w hF hS => h ι a w hF (hS.flat hp)
theorem ivs_pl (xs : List Int) : ∀ v ∈ ivs xs, plain1 v = true := fun v hv => by obtain ⟨y, _, rfl⟩ := List.mem_map.1 hv; rfl
end
end Go.Proofs.Ytnkddjdmpnghmaa.Am
namespace Go.Proofs.Ytnkddjdmpnghmaa.Am
set_option linter.unusedSimpArgs false
set_option linter.unusedVariables false
open Go Go.RowKit
def bys (ns : List Int) : Prop := ∀ n ∈ ns, 0 ≤ n ∧ n < 256
theorem bys.append {a b : List Int} (ha : bys a) (hb : bys b) : bys (a ++ b) := fun n hn => (List.mem_append.1 hn).elim (ha n) (hb n)
section
variable {F : Mem} {K : Own} {L : Slots}
end
section
variable {X : Cx} {F : Mem} {L : Slots} {K : Own} {s : List SI} {ops : Array Oper} {o : Oper} {l : List Oper}
end
end Go.Proofs.Ytnkddjdmpnghmaa.Am
namespace Go.Proofs.Ytnkddjdmpnghmaa.Am
set_option linter.unusedSimpArgs false
set_option linter.unusedVariables false
open Go Go.RowKit
section
variable {X : Cx} {F : Mem} {L : Slots} {K : Own} {s : List SI} {ops : Array Oper} {o : Oper} {l : List Oper}
end
section
variable {F : Mem} {L : Slots} {K : Own}
end
def PlA (a : Option Addr) : Prop := a = none ∨ (∃ b o, a = some ⟨b, o, none⟩) ∨ ∃ b o s, a = some ⟨b, o, some (s + 1)⟩
section
variable {a : Option Addr} (h : PlA a)
include h
theorem PlA.pl (n c : Nat) : plain1 (.slice a n c) = true := by rcases h with rfl | ⟨b, o, rfl⟩ | ⟨b, o, s, rfl⟩ <;> rfl
theorem PlA.nt (t n c : Nat) : nt1 t (.slice a n c) = true := by rcases h with rfl | ⟨b, o, rfl⟩ | ⟨b, o, s, rfl⟩ <;> rfl
theorem PlA.tg (D : List Nat) (n c : Nat) : tg1 D (.slice a n c) = true := by rcases h with rfl | ⟨b, o, rfl⟩ | ⟨b, o, s, rfl⟩ <;> rfl
theorem PlA.r (ι : Nat → Nat) (n c : Nat) : r1 ι (.slice a n c) = .slice a n c := by rcases h with rfl | ⟨b, o, rfl⟩ | ⟨b, o, s, rfl⟩ <;> rfl
theorem PlA.c (ι κ : Nat → Nat) (n c : Nat) : c1 ι (.slice a n c) = c1 κ (.slice a n c) := by rcases h with rfl | ⟨b, o, rfl⟩ | ⟨b, o, s, rfl⟩ <;> rfl
theorem PlA.app0 {P : Program} {F : Mem} {K : Own} (sz c : Nat) : App P F K sz (.slice a 0 c) 0 [] := by
  rcases h with rfl | ⟨b, o, rfl⟩ | ⟨b, o, s, rfl⟩
  · exact App.nil _ _
  · exact App.slice (by simp [rdN, lookN]) (fun v hv => by cases hv) (by simp)
  · exact App.slice (by simp [rdN]) (fun v hv => by cases hv) (by simp)
end
theorem PlA.rV {a : Option Addr} (h : PlA a) (ι : Nat → Nat) (n c : Nat) : rV ι (.slice a n c) = .slice a n c := h.r ι n c
theorem C.ofR {P : Program} {f : FuncId} {vs us : List Value} {F : Mem} {Q : Value → List (Nat × Row) → Prop} (h : C P f us F Q) (e : vs = us) : C P f vs F Q := e ▸ h
theorem arg1 {f : Value → Value} {a a' : Value} (h1 : f a = a') : [a].map f = [a'] := by rw [List.map_cons, List.map_nil, h1]
theorem arg2 {f : Value → Value} {a b a' b' : Value} (h1 : f a = a') (h2 : f b = b') : [a, b].map f = [a', b'] := by rw [List.map_cons, List.map_cons, List.map_nil, h1, h2]
theorem nt1_i (t : Nat) (k : IntKind) (x : Int) : nt1 t (.int k x) = true := rfl
theorem nt1_b (t : Nat) (x : Bool) : nt1 t (.bool x) = true := rfl
theorem nt1_n (t n c : Nat) : nt1 t (.slice none n c) = true := rfl
theorem nt1_o (t u o n c : Nat) : nt1 t (.slice (some ⟨u, o, some 0⟩) n c) = (u != t) := rfl
theorem nt1_w (t u o n c : Nat) : nt1 t (.slice (some ⟨u, o, none⟩) n c) = true := rfl
theorem nt1_p (t b o : Nat) : nt1 t (.pointer (some ⟨b, o, some 0⟩)) = (b != t) := rfl
theorem tg1_i (t : List Nat) (k : IntKind) (x : Int) : tg1 t (.int k x) = true := rfl
theorem tg1_b (t : List Nat) (x : Bool) : tg1 t (.bool x) = true := rfl
/-- numbers in a slice, told by their places -/
structure RIx (F : Mem) (a : Option Addr) (xs : List Int) : Prop where
  pl : PlA a
  h63 : xs.length ≤ 9223372036854775807
  rd : 0 < xs.length → ∃ b off, a = some ⟨b, off, none⟩ ∧ ∀ (i : Nat) (x : Int), xs[i]? = some x → look F ⟨b, off + i, none⟩ = some (.int .i64 x)
theorem RIx.le {F F' : Mem} {a : Option Addr} {xs : List Int} (h : RIx F a xs) (hl : F.le F') : RIx F' a xs := ⟨h.pl, h.h63, fun hp => by
  obtain ⟨b, off, e, hr⟩ := h.rd hp
  exact ⟨b, off, e, fun i x hx => hl _ _ (hr i x hx)⟩⟩
theorem RIx.app {P : Program} {F : Mem} {K : Own} {a : Option Addr} {xs : List Int} (h : RIx F a xs) (c : Nat) : App P F K 1 (.slice a xs.length c) xs.length (ivs xs) := by
  rcases Nat.eq_zero_or_pos xs.length with hz | hz
  · have hxs : xs = [] := List.eq_nil_of_length_eq_zero hz
    subst hxs
    exact h.pl.app0 1 c
  · obtain ⟨b, off, rfl, hr⟩ := h.rd hz
    refine App.slice ?_ (ivs_one xs) (by rw [ivs_length, Nat.mul_one])
    rw [Nat.mul_one]
    exact lookN_ints hr
theorem RIx.ofInts {F : Mem} {v : Value} {xs : List Int} (h : RInts F v xs) : ∃ a c, v = .slice a xs.length c ∧ RIx F a xs := by
  rcases h with ⟨b, off, c, rfl, h2, h3⟩ | ⟨rfl, rfl⟩
  · exact ⟨_, c, rfl, .inr (.inl ⟨_, _, rfl⟩), h2, fun _ => ⟨b, off, rfl, h3⟩⟩
  · exact ⟨none, 0, rfl, .inl rfl, by simp, fun h => by simp at h⟩
theorem RIx.none (F : Mem) : RIx F none [] := ⟨.inl rfl, by simp, fun h => by simp at h⟩
theorem Val.intsX {ι : Nat → Nat} {K : Own} {F : Mem} (h : Val ι K F) {t : Nat} {r : Row} {xs : List Int} (hr : K.lookup t = some r) (hcs : r.cs = ivs xs) (hl : xs.length ≤ 9223372036854775807) : RIx (push ι K F) (some ⟨ι t, 0, .none⟩) xs := by
  refine ⟨.inr (.inl ⟨_, _, rfl⟩), hl, fun _ => ⟨_, _, rfl, fun i x hx => ?_⟩⟩
  have := h.look hr (o := i) (v := .int .i64 x) (by rw [hcs]; exact ivs_get hx)
  rw [Nat.zero_add]
  exact this
theorem St.retag1 {F : Mem} {ι κ : Nat → Nat} {u t : Nat} {r : Row} {w : World} (h : St F ι [(t, r)] w) (e : κ u = ι t) (hp : ∀ v ∈ r.cs, plain1 v = true) : St F κ [(u, r)] w := by
  refine ⟨h.below, ?_, fun x hx => ?_, h.ext⟩
  · have := h.nodup
    simpa [e] using this
  · simp only [List.mem_singleton] at hx
    subst hx
    have := h.own (t, r) (by simp)
    have ec : r.c κ = r.c ι := Row.c_flat _ _ hp
    refine ⟨?_, ?_, this.2.2⟩
    · show _ ≤ κ u
      rw [e]; exact this.1
    · show Holds w (κ u) (r.c κ)
      rw [e, ec]; exact this.2.1
theorem CA.at {P : Program} {f : FuncId} {F : Mem} {r r' : Row} {o n c : Nat} {rest : List Value} {v0 : Value} (u : Nat) (hr : ∀ v ∈ r.cs, plain1 v = true) (hr' : ∀ v ∈ r'.cs, plain1 v = true) (hf' : r'.flat = true) (hrest : ∀ ι κ, rest.map (cV ι) = rest.map (cV κ)) (hv0 : ∀ ι κ, cV ι v0 = cV κ v0) (hg : ∀ T, tgV T v0 = true)
    (h : CA P [500001] [500001] f (.slice (some ⟨500001, o, some 0⟩) n c :: rest) F [(500001, r)] (fun v Y K' => v = v0 ∧ Y = [] ∧ K' = [(500001, r')])) :
    CA P [u] [u] f (.slice (some ⟨u, o, some 0⟩) n c :: rest) F [(u, r)] (fun v Y K' => v = v0 ∧ Y = [] ∧ K' = [(u, r')]) := by
  intro ι w hS
  have hk : upd ι 500001 (ι u) 500001 = ι u := upd_eq ..
  have h1 := h (upd ι 500001 (ι u)) w (hS.retag1 hk hr)
  have ea : ((Value.slice (some ⟨500001, o, some 0⟩) n c :: rest).map (cV (upd ι 500001 (ι u)))) = ((Value.slice (some ⟨u, o, some 0⟩) n c :: rest).map (cV ι)) := by
    rw [List.map_cons, List.map_cons, hrest (upd ι 500001 (ι u)) ι]
    refine congrArg (· :: _) ?_
    show Value.slice (some ⟨upd ι 500001 (ι u) 500001, o, none⟩) n c = Value.slice (some ⟨ι u, o, none⟩) n c
    rw [hk]
  rw [ea] at h1
  refine h1.mono fun e w' ⟨ι', v, Y, K', e1, e2, e3, e4, e5, e6, e7, e8, e9⟩ => ?_
  subst e7 e8 e9
  refine ⟨ι, v, [], [(u, r')], by rw [e1, hv0], fun _ _ => rfl, by simp [tgK, hf'], hg _, e5, e6.retag1 ?_ hr', rfl, rfl, rfl⟩
  rw [e2 _ (by simp), hk]
end Go.Proofs.Ytnkddjdmpnghmaa.Am
namespace Go.Proofs.Ytnkddjdmpnghmaa.Am
set_option linter.unusedSimpArgs false
set_option linter.unusedVariables false
open Go Go.RowKit
section
variable {X : Cx} {F F0 : Mem} {L : Slots} {K K0 : Own} {s : List SI} {ops : Array Oper} {l : List Oper} {b : Nat} {D : List Nat} {p : List (Nat × Bool)} {listed : Array Bool}
/-- a literal slice -/
theorem dsl {i : Nat} {o : Oper} {Θ : Tab} {ty el : TypeId} {parts : Array (Nat × Operand)} {d n : Nat} {ti tj : Ty} {ps : List (Nat × List Value)} {cs : List Value} (hk : JD X l b F0 K0 D p (listed.setIfInBounds i true) s F ((d, .slice (some ⟨d, 0, some 0⟩) n n) :: L) ((d, { elem := el, cs := cs, room := n * tj.size, flat := false }) :: K))
    (ho' : l[i]? = some o := by rfl) (hg : o.guard = none := by rfl) (ho : o.op = .buildSlice ty n parts := by rfl) (hd : o.dst = some d := by rfl) (hN : d < X.N := by exact Nat.le_of_ble_eq_true rfl) (hθ : tabOk X.P Θ = true := by exact hT) (hi : Θ.lookup ty = some ti := by rfl) (hki : ti.k = .slice el := by rfl) (hj : Θ.lookup el = some tj := by rfl)
    (hp : partsL (evO L) parts.toList = some ps := by rfl) (h1 : ps.all (fun q => q.2.all (·.oneCell')) = true := by rfl) (hf : fillL (fun i => some (i * tj.size, tj.size)) (zer tj n) ps = some cs := by rfl) (hs : n * tj.size ≤ 16777216 := by exact Nat.le_of_ble_eq_true rfl) (hz0 : tj.zero.length = tj.size := by rfl) (hz1 : 0 < tj.size := by exact Nat.le_of_ble_eq_true rfl)
    (hL : ntL d L = true := by rfl) (hK : ntK d K = true := by rfl) (hD : D.contains d = false := by rfl)
    (hkp : Kept b F0 K0 (listed.setIfInBounds i true) F ((d, { elem := el, cs := cs, room := n * tj.size, flat := false }) :: K) := by first | exact Kept.all | exact Kept.k0 | exact Kept.kY | exact Kept.kYY | exact Kept.kY3) (hi9 : i < 5000 := by exact Nat.le_of_ble_eq_true rfl) : JD X l b F0 K0 D ((i, false) :: p) listed s F L K :=
  JD.op hi9 ho' hg (Go1.slit hθ ho hd hN hi hki hj hp h1 hf hs hz0 hz1 hL hK hD ⟨hkp, hk⟩)
/-- append to nothing -/
theorem dapN {i : Nat} {o : Oper} {Θ : Tab} {ty ty' el : TypeId} {sx x : Operand} {d m : Nat} {ti ti' tj : Ty} {xv : Value} {news : List Value} (t : Nat) (fl : Bool)
    (hk : ∀ cap, m ≤ cap → cap ≤ 9223372036854775807 → JD X l b F0 K0 D p (listed.setIfInBounds i true) s F ((d, .slice (some ⟨t, 0, some 0⟩) m cap) :: L) ((t, { elem := el, cs := news, room := cap * tj.size, flat := fl }) :: K))
    (ho' : l[i]? = some o := by rfl) (hg : o.guard = none := by rfl) (ho : o.op = .call ⟨.builtin .append, #[sx, x], #[ty, ty']⟩ := by rfl) (hd : o.dst = some d := by rfl) (hN : d < X.N := by exact Nat.le_of_ble_eq_true rfl) (hθ : tabOk X.P Θ = true := by exact hT)
    (hi : Θ.lookup ty = some ti := by rfl) (hki : ti.k = .slice el := by rfl) (hi' : Θ.lookup ty' = some ti' := by rfl) (hk' : slB ti'.k = true := by rfl) (hj : Θ.lookup el = some tj := by rfl) (hz0 : tj.zero.length = tj.size := by rfl) (hz1 : 0 < tj.size := by exact Nat.le_of_ble_eq_true rfl)
    (hs : evO L sx = some (.slice none 0 0) := by rfl) (hx : evO L x = some xv := by rfl) (happ : App X.P F K tj.size xv m news := by exact App.slice rfl (by simp [Value.oneCell']; done) rfl)
    (hm : 0 < m := by first | exact Nat.le_of_ble_eq_true rfl | omega) (h63 : m ≤ 9223372036854775807 := by first | exact Nat.le_of_ble_eq_true rfl | omega) (hby : m * tj.bytes ≤ 140737488355328 := by first | exact Nat.le_of_ble_eq_true rfl | (dsimp only; omega))
    (hflat : fl = true → news.all plain1 = true := by intro _; rfl) (hL : ntL t L = true := by rfl) (hK : ntK t K = true := by rfl) (hnn : news.all (nt1 t) = true := by rfl) (hD : D.contains t = false := by rfl)
    (hkp : ∀ cap, Kept b F0 K0 (listed.setIfInBounds i true) F ((t, { elem := el, cs := news, room := cap * tj.size, flat := fl }) :: K) := by intro cap; first | exact Kept.all | exact Kept.k0 | exact Kept.kY | exact Kept.kYY | exact Kept.kY3) (hi9 : i < 5000 := by exact Nat.le_of_ble_eq_true rfl) : JD X l b F0 K0 D ((i, false) :: p) listed s F L K := by
  refine JD.op hi9 ho' hg (Go1.append (t := t) (n := 0) (c := 0) (olds := []) (K0 := K) (fz := false) (fl := fl) hθ ho hd hN hi hki hi' hk' hj hz0 hz1 hs hx happ hm (.inl ⟨rfl, rfl, rfl, rfl, rfl⟩) (by simp) hflat (by omega) (by simpa using hby) hL hK hnn hD ?_)
  intro cap h1 h2
  simp only [Nat.zero_add, List.nil_append] at h1 ⊢
  exact ⟨hkp cap, hk cap h1 h2⟩
/-- append to an own row of the tag u: the row has the new tag t behind it -/
theorem dapO {i : Nat} {o : Oper} {Θ : Tab} {ty ty' el : TypeId} {sx x : Operand} {d u m n c : Nat} {ti ti' tj : Ty} {xv : Value} {news : List Value} {r : Row} (t : Nat)
    (hk : ∀ cap, n + m ≤ cap → cap ≤ 9223372036854775807 → JD X l b F0 K0 D p (listed.setIfInBounds i true) s F ((d, .slice (some ⟨t, 0, some 0⟩) (n + m) cap) :: L) ((t, { elem := el, cs := r.cs ++ news, room := cap * tj.size, fz := r.fz, flat := r.flat }) :: delK u K))
    (ho' : l[i]? = some o := by rfl) (hg : o.guard = none := by rfl) (ho : o.op = .call ⟨.builtin .append, #[sx, x], #[ty, ty']⟩ := by rfl) (hd : o.dst = some d := by rfl) (hN : d < X.N := by exact Nat.le_of_ble_eq_true rfl) (hθ : tabOk X.P Θ = true := by exact hT)
    (hi : Θ.lookup ty = some ti := by rfl) (hki : ti.k = .slice el := by rfl) (hi' : Θ.lookup ty' = some ti' := by rfl) (hk' : slB ti'.k = true := by rfl) (hj : Θ.lookup el = some tj := by rfl) (hz0 : tj.zero.length = tj.size := by rfl) (hz1 : 0 < tj.size := by exact Nat.le_of_ble_eq_true rfl)
    (hs : evO L sx = some (.slice (some ⟨u, 0, some 0⟩) n c) := by rfl) (hx : evO L x = some xv := by rfl) (hr : K.lookup u = some r := by rfl) (happ : App X.P F K tj.size xv m news := by exact App.slice rfl (by simp [Value.oneCell']; done) rfl)
    (hroom : r.room = c * tj.size := by rfl) (hel : r.elem = el := by rfl) (hol : r.cs.length = n * tj.size := by first | rfl | (dsimp only; omega) | (simp; done) | (simp; omega)) (hnc : n ≤ c := by omega) (hcm : c ≤ 9223372036854775807 := by omega)
    (hm : 0 < m := by first | exact Nat.le_of_ble_eq_true rfl | omega) (h63 : n + m ≤ 9223372036854775807 := by omega) (hby : (n + m) * tj.bytes ≤ 140737488355328 := by (dsimp only; omega))
    (hflat : r.flat = true → news.all plain1 = true := by intro _; rfl) (hL : ntL t L = true := by rfl) (hK : ntK t K = true := by rfl) (hnn : news.all (nt1 t) = true := by rfl) (hD : D.contains t = false := by rfl)
    (hkp : ∀ cap, Kept b F0 K0 (listed.setIfInBounds i true) F ((t, { elem := el, cs := r.cs ++ news, room := cap * tj.size, fz := r.fz, flat := r.flat }) :: delK u K) := by intro cap; first | exact Kept.all | exact Kept.k0 | exact Kept.kY | exact Kept.kYY | exact Kept.kY3) (hi9 : i < 5000 := by exact Nat.le_of_ble_eq_true rfl) : JD X l b F0 K0 D ((i, false) :: p) listed s F L K := by
  refine JD.op hi9 ho' hg (Go1.append (t := t) (n := n) (c := c) (olds := r.cs) (K0 := delK u K) (fz := r.fz) (fl := r.flat) hθ ho hd hN hi hki hi' hk' hj hz0 hz1 hs hx happ hm (.inr ⟨u, r, rfl, hr, rfl, hroom, hel, hnc, hcm, rfl, id, id⟩) hol hflat h63 hby hL hK hnn hD ?_)
  intro cap h1 h2
  exact ⟨hkp cap, hk cap h1 h2⟩
/-- a row that a cell of another row shows gets another tag -/
theorem JL.retagC {A t u off n c : Nat} {rA r : Row} (Lk : Slots) (Kk : Own) (h : JL X ops l s F Lk (setK A { rA with cs := rA.cs.set off (.slice (some ⟨u, 0, some 0⟩) n c) } ((u, r) :: (A, rA) :: Kk)))
    (hA : K.lookup A = some rA := by rfl) (hr : K.lookup t = some r := by rfl) (hcell : rA.cs[off]? = some (.slice (some ⟨t, 0, some 0⟩) n c) := by rfl) (hfA : rA.flat = false := by rfl) (hAu : (A == u) = false := by rfl)
    (hLk : LSub Lk L := by repeat' first | exact trivial | refine And.intro rfl ?_) (hKk : KSub ((t, r) :: (A, rA) :: Kk) K := by repeat' first | exact trivial | refine And.intro rfl ?_) (hL : ntL u Lk = true := by rfl) (hK : ntK u ((A, rA) :: Kk) = true := by rfl) (hru : (r.flat || r.cs.all (nt1 u)) = true := by rfl) (hD : X.D.contains u = false := by rfl) : JL X ops l s F L K := by
  intro ι a w hF hS
  have hS1 := hS.weak hKk
  have hagree : ∀ v ∈ X.D, upd ι u (ι t) v = ι v := fun v hv => upd_ne ι (fun e => by subst e; simp at hD; exact hD hv)
  have hS2 := hS1.retag hK hru
  have hlk : ((u, r) :: (A, rA) :: Kk).lookup A = some rA := by
    rw [List.lookup_cons, hAu, List.lookup_cons_self]
  have htt : upd ι u (ι t) t = ι t := by
    by_cases e : t = u
    · subst e; exact upd_eq ..
    · exact upd_ne ι e
  have hc : ({ rA with cs := rA.cs.set off (.slice (some ⟨u, 0, some 0⟩) n c) } : Row).c (upd ι u (ι t)) = rA.c (upd ι u (ι t)) := by
    simp only [Row.c]
    congr 1
    rw [List.map_set]
    apply List.ext_getElem?
    intro j
    rw [List.getElem?_set]
    split
    · rename_i e
      subst e
      have hlt := (List.getElem?_eq_some_iff.1 hcell).1
      rw [List.length_map, if_pos hlt, List.getElem?_map, hcell]
      show some (c1 _ (.slice (some ⟨u, 0, some 0⟩) n c)) = some (c1 _ (.slice (some ⟨t, 0, some 0⟩) n c))
      show some (Value.slice (some ⟨upd ι u (ι t) u, 0, none⟩) n c) = some (Value.slice (some ⟨upd ι u (ι t) t, 0, none⟩) n c)
      rw [htt, upd_eq]
    · rfl
  have hh := (hS2.own (A, rA) (by simp)).2.1
  refine JL.tr hagree (h (upd ι u (ι t)) a w ?_ (hS2.set hlk (fun _ _ => rfl) rfl rfl rfl rfl (by rw [hc]; exact hh) (fun hf => by rw [show ({ rA with cs := rA.cs.set off (.slice (some ⟨u, 0, some 0⟩) n c) } : Row).flat = rA.flat from rfl, hfA] at hf; cases hf)))
  exact (hF.weak hLk).nt (κ := upd ι u (ι t)) (t := u) (fun v hv => upd_ne ι hv) hL
end
section
variable {X : Cx} {F F0 : Mem} {L : Slots} {K K0 : Own} {s : List SI} {ops : Array Oper} {o : Oper} {l : List Oper} {b : Nat} {D : List Nat} {p : List (Nat × Bool)} {listed : Array Bool}
end
section
variable {X : Cx} {F F0 : Mem} {L : Slots} {K K0 : Own} {s : List SI} {l : List Oper} {b : Nat} {D : List Nat} {p : List (Nat × Bool)} {listed : Array Bool}
end
end Go.Proofs.Ytnkddjdmpnghmaa.Am
namespace Go.Proofs.Ytnkddjdmpnghmaa.Am
set_option linter.unusedSimpArgs false
set_option linter.unusedVariables false
set_option maxRecDepth 100000
set_option maxHeartbeats 4000000
open Go Go.RowKit
structure Par where
  w : Int
  tol : Int
  line : Int
  twice : Int
  odd : Int
def Par.v (x : Par) : Value := .agg #[.int .i64 x.w, .int .i64 x.tol, .int .i64 x.line, .int .i64 x.twice, .int .i64 x.odd]
def Par.good (x : Par) : Bool := decide (1 ≤ x.w ∧ x.w ≤ 1073741824 ∧ 0 ≤ x.tol ∧ x.tol ≤ 10000 ∧ 0 ≤ x.line ∧ x.line ≤ 1000 ∧ 0 ≤ x.twice ∧ x.twice ≤ 1000000 ∧ 0 ≤ x.odd ∧ x.odd ≤ 1000000)
theorem sq_bd {x n : Int} (h0 : -n ≤ x) (h1 : x ≤ n) : 0 ≤ x * x ∧ x * x ≤ n * n := by
  rcases Int.le_total 0 x with h | h
  · exact ⟨Int.mul_nonneg h h, Int.mul_le_mul h1 h1 h (by omega)⟩
  · have : x * x = (-x) * (-x) := by rw [Int.neg_mul_neg]
    rw [this]; exact ⟨Int.mul_nonneg (by omega) (by omega), Int.mul_le_mul (by omega) (by omega) (by omega) (by omega)⟩
def lineD (l b p : Int) : Int :=
  if 0 ≤ min (max p (-10000)) 10000 then (min (max l 0) 1000 + min (max b 0) 10000) * (min (max l 0) 1000 + min (max b 0) 10000) + min (max p (-10000)) 10000 * min (max p (-10000)) 10000
  else if -10000 < min (max p (-10000)) 10000 then (min (max l 0) 1000 + min (max b 0) 10000) * (min (max l 0) 1000 + min (max b 0) 10000) - min (max p (-10000)) 10000 * min (max p (-10000)) 10000
  else (min (max l 0) 1000 + min (max b 0) 10000) * (min (max l 0) 1000 + min (max b 0) 10000)
theorem Line_C (F : Mem) (l b p : Int) : C0 Try.prog 70 [.int .i64 l, .int .i64 b, .int .i64 p] F (.int .i64 (lineD l b p)) := by
  have h1 := sq_bd (x := min (max l 0) 1000 + min (max b 0) 10000) (n := 11000) (by omega) (by omega)
  have h2 := sq_bd (x := min (max p (-10000)) 10000) (n := 10000) (by omega) (by omega)
  refine C.go hT Try.func70 Try.ntmps70 ?_
  (repeat' (first | refine st ?_ | refine nl ?_ | refine sq ?_ | refine rg ?_ | refine bl ?_ | refine sk ?_ | refine bk ?_ | refine bx ?_ | refine al ?_ | refine so ?_ | refine mk ?_ | refine ex ?_ | refine lb ?_ | refine cT ?_ | refine cF ?_ | refine sg ?_ | refine sp ?_ | refine su ?_ | refine gD (fun _ => ?_) (fun _ => ?_) | refine gN (fun _ => ?_) (fun _ => ?_) | refine cD (fun _ => ?_) (fun _ => ?_) | refine cN (fun _ => ?_) (fun _ => ?_)))
  all_goals (refine rt ⟨?_, rfl⟩; simp only [lineD, *, if_true, if_false])
theorem Good_C (F : Mem) (x : Par) : C0 Try.prog 39 [x.v] F (.bool x.good) := by
  obtain ⟨w, tol, line, twice, odd⟩ := x
  dsimp only [Par.v]
  refine C.go hT Try.func39 Try.ntmps39 ?_
  (repeat' (first | refine st ?_ | refine nl ?_ | refine sq ?_ | refine rg ?_ | refine bl ?_ | refine sk ?_ | refine bk ?_ | refine bx ?_ | refine al ?_ | refine so ?_ | refine mk ?_ | refine ex ?_ | refine lb ?_ | refine cT ?_ | refine cF ?_ | refine sg ?_ | refine sp ?_ | refine su ?_ | refine gD (fun _ => ?_) (fun _ => ?_) | refine gN (fun _ => ?_) (fun _ => ?_) | refine cD (fun _ => ?_) (fun _ => ?_) | refine cN (fun _ => ?_) (fun _ => ?_)))
  all_goals (refine rt ⟨?_, rfl⟩; simp only [Par.good, Value.bool.injEq, eq_comm (a := false), eq_comm (a := true), decide_eq_true_eq, decide_eq_false_iff_not, decide_eq_decide]; omega)
theorem sized_C (F : Mem) (x : Int) : C0 Try.prog 46 [.int .i64 x] F (.bool (decide (0 ≤ x ∧ x ≤ 1073741824))) := by
  refine C.go hT Try.func46 Try.ntmps46 ?_
  (repeat' (first | refine st ?_ | refine nl ?_ | refine sq ?_ | refine rg ?_ | refine bl ?_ | refine sk ?_ | refine bk ?_ | refine bx ?_ | refine al ?_ | refine so ?_ | refine mk ?_ | refine ex ?_ | refine lb ?_ | refine cT ?_ | refine cF ?_ | refine sg ?_ | refine sp ?_ | refine su ?_ | refine gD (fun _ => ?_) (fun _ => ?_) | refine gN (fun _ => ?_) (fun _ => ?_) | refine cD (fun _ => ?_) (fun _ => ?_) | refine cN (fun _ => ?_) (fun _ => ?_)))
  all_goals (refine rt ⟨?_, rfl⟩; simp only [Value.bool.injEq, eq_comm (a := false), decide_eq_true_eq, decide_eq_false_iff_not, decide_eq_decide]; omega)
theorem limits_C (F : Mem) : C0 Try.prog 72 [] F (.agg #[.int .i64 12, .int .i64 99, .int .i64 10000]) := by
  refine C.go hT Try.func72 Try.ntmps72 ?_
  (repeat (first | refine st ?_ | refine nl ?_ | refine sq ?_ | refine rg ?_ | refine bl ?_ | refine sk ?_ | refine bk ?_ | refine bx ?_ | refine al ?_ | refine so ?_ | refine mk ?_ | refine ex ?_ | refine lb ?_ | refine cT ?_ | refine cF ?_ | refine sg ?_ | refine sp ?_ | refine su ?_))
  exact rt ⟨rfl, rfl⟩
def moreD (a b : Int) (f g : Bool) (x : Par) : Int := (if 1 < min (max a 0) 3 - min (max b 0) 3 ∨ 1 < min (max b 0) 3 - min (max a 0) 3 then min (max x.odd 0) 1000000 else 0) + (if (f && g) = true then min (max x.twice 0) 1000000 else 0)
theorem More_C (F : Mem) (a b : Int) (f g : Bool) (x : Par) : C0 Try.prog 71 [.int .i64 a, .int .i64 b, .bool f, .bool g, x.v] F (.int .i64 (moreD a b f g x)) := by
  obtain ⟨w, tol, line, twice, odd⟩ := x
  dsimp only [Par.v]
  cases f <;> cases g <;> refine C.go hT Try.func71 Try.ntmps71 ?_
  all_goals (repeat' (first | refine st ?_ | refine nl ?_ | refine sq ?_ | refine rg ?_ | refine bl ?_ | refine sk ?_ | refine bk ?_ | refine bx ?_ | refine al ?_ | refine so ?_ | refine mk ?_ | refine ex ?_ | refine lb ?_ | refine cT ?_ | refine cF ?_ | refine sg ?_ | refine sp ?_ | refine su ?_ | refine gD (fun _ => ?_) (fun _ => ?_) | refine gN (fun _ => ?_) (fun _ => ?_) | refine cD (fun _ => ?_) (fun _ => ?_) | refine cN (fun _ => ?_) (fun _ => ?_)))
  all_goals (refine rt ⟨?_, rfl⟩; simp only [moreD, Value.int.injEq, true_and, Bool.and_self, Bool.and_true, Bool.and_false, if_true, Bool.false_eq_true, if_false]; (repeat' split) <;> omega)
end Go.Proofs.Ytnkddjdmpnghmaa.Am
namespace Go.Proofs.Ytnkddjdmpnghmaa.Am
set_option linter.unusedSimpArgs false
set_option linter.unusedVariables false
set_option maxRecDepth 100000
set_option maxHeartbeats 4000000
open Go Go.RowKit
structure Item where
  kind : Int
  width : Int
  stretch : Int
  shrink : Int
  cost : Int
  flag : Bool
  font : Int
  size : Int
  link : Int
  run : Int
  glyphs : List Int
deriving instance DecidableEq for Item
def Item.cells (x : Item) (g : Value) : List Value := [.int .i64 x.kind, .int .i64 x.width, .int .i64 x.stretch, .int .i64 x.shrink, .int .i64 x.cost, .bool x.flag, .int .i64 x.font, .int .i64 x.size, .int .i64 x.link, .int .i64 x.run, g]
theorem lookN_at {F : Mem} {a : Addr} {n : Nat} {cs : List Value} (h : lookN F a n = some cs) (j : Nat) {v : Value} (hv : cs[j]? = some v) : look F (addA a j) = some v := (lookN_spec h).2 j v hv
/-- an item's glyphs: of none, the address may be any -/
def RGl (F : Mem) (g : Value) (xs : List Int) : Prop := RInts F g xs ∨ ∃ b o s, g = .slice (some ⟨b, o, some (s + 1)⟩) 0 0 ∧ xs = []
theorem RGl.le {F F' : Mem} {v : Value} {xs : List Int} (h : RGl F v xs) (hl : F.le F') : RGl F' v xs := by
  rcases h with h | h
  · exact .inl (h.le hl)
  · exact .inr h
/-- a slice of items, told by what stands in it -/
def RItems (F : Mem) (v : Value) (l : List Item) : Prop :=
  (∃ b off c, v = .slice (some ⟨b, off, none⟩) l.length c ∧ l.length ≤ 9223372036854775807 ∧ ∀ i x, l[i]? = some x → ∃ g, lookN F ⟨b, off + i * 11, none⟩ 11 = some (x.cells g) ∧ RGl F g x.glyphs) ∨ (v = .slice none 0 0 ∧ l = [])
theorem RItems.le {F F' : Mem} {v : Value} {l : List Item} (h : RItems F v l) (hl : F.le F') : RItems F' v l := by
  have aux : ∀ n a cs, lookN F a n = some cs → lookN F' a n = some cs := by
    intro n
    induction n with
    | zero => intro a cs h; exact h
    | succ n ih =>
      intro a cs h
      simp only [lookN] at h ⊢
      split at h <;> try (simp at h; done)
      rename_i v hv
      split at h <;> try (simp at h; done)
      rename_i cs' hcs
      rw [hl _ _ hv, ih _ _ hcs]; exact h
  rcases h with ⟨b, off, c, h1, h2, h3⟩ | h
  · exact .inl ⟨b, off, c, h1, h2, fun i x hx => by obtain ⟨g, hg, hr⟩ := h3 i x hx; exact ⟨g, aux _ _ _ hg, hr.le hl⟩⟩
  · exact .inr h
def Item.dflt : Item := ⟨0, 0, 0, 0, 0, false, 0, 0, 0, 0, []⟩
def at_ (l : List Item) (i : Nat) : Item := l.getD i Item.dflt
theorem at_get {l : List Item} {i : Nat} (h : i < l.length) : l[i]? = some (at_ l i) := by simp [at_, List.getD_eq_getElem?_getD, List.getElem?_eq_getElem h]
/-- a slice of no items or some, each of whose cells is told -/
theorem RItems.cases {F : Mem} {v : Value} {l : List Item} (h : RItems F v l) : (∃ b off c, v = .slice (some ⟨b, off, none⟩) l.length c ∧ l.length ≤ 9223372036854775807 ∧ ∀ i, i < l.length →
    look F ⟨b, off + i * 11 + 0, none⟩ = some (.int .i64 (at_ l i).kind) ∧ look F ⟨b, off + i * 11 + 1, none⟩ = some (.int .i64 (at_ l i).width) ∧ look F ⟨b, off + i * 11 + 2, none⟩ = some (.int .i64 (at_ l i).stretch) ∧ look F ⟨b, off + i * 11 + 3, none⟩ = some (.int .i64 (at_ l i).shrink) ∧ look F ⟨b, off + i * 11 + 4, none⟩ = some (.int .i64 (at_ l i).cost) ∧ look F ⟨b, off + i * 11 + 5, none⟩ = some (.bool (at_ l i).flag) ∧
    ∃ g, lookN F ⟨b, off + i * 11, none⟩ 11 = some ((at_ l i).cells g) ∧ RGl F g (at_ l i).glyphs) ∨ (v = .slice none 0 0 ∧ l = []) := by
  rcases h with ⟨b, off, c, h1, h2, h3⟩ | h
  · refine .inl ⟨b, off, c, h1, h2, fun i hi => ?_⟩
    obtain ⟨g, hg, hr⟩ := h3 i _ (at_get hi)
    exact ⟨lookN_at hg 0 rfl, lookN_at hg 1 rfl, lookN_at hg 2 rfl, lookN_at hg 3 rfl, lookN_at hg 4 rfl, lookN_at hg 5 rfl, g, hg, hr⟩
  · exact .inr h
def Item.ok (x : Item) : Bool := decide (1 ≤ x.kind ∧ x.kind ≤ 3 ∧ 0 ≤ x.width ∧ x.width ≤ 1073741824 ∧ 0 ≤ x.stretch ∧ x.stretch ≤ 1073741824 ∧ 0 ≤ x.shrink ∧ x.shrink ≤ 1073741824 ∧ -10000 ≤ x.cost ∧ x.cost ≤ 10000)
def goodL (l : List Item) : Bool := decide (1 ≤ l.length ∧ l.length ≤ 1024) && l.all Item.ok && decide ((at_ l 0).kind = 1) && decide ((at_ l (l.length - 1)).kind = 3) && decide ((at_ l (l.length - 1)).cost = -10000)
def forceB (x : Item) : Bool := decide (x.kind = 3 ∧ x.cost = -10000)
/-- a value of items, by itself -/
def SlV (g : Value) : Prop := (∃ b o n c, g = .slice (some ⟨b, o, none⟩) n c) ∨ ∃ n c, g = .slice none n c
theorem RInts.sl {F : Mem} {g : Value} {xs : List Int} (h : RInts F g xs) : SlV g := by
  rcases h with ⟨b, off, c, h1, _⟩ | ⟨h, _⟩
  · exact .inl ⟨b, off, _, c, h1⟩
  · exact .inr ⟨_, _, h⟩
/-- an item's own slice, wherever it lies -/
def SlG (g : Value) : Prop := SlV g ∨ ∃ b o s n c, g = .slice (some ⟨b, o, some (s + 1)⟩) n c
theorem RGl.sl {F : Mem} {g : Value} {xs : List Int} (h : RGl F g xs) : SlG g := by
  rcases h with h | ⟨b, o, s, h, _⟩
  · exact .inl h.sl
  · exact .inr ⟨b, o, s, 0, 0, h⟩
theorem force_C (F : Mem) (x : Item) (g : Value) (hg : SlG g) : C0 Try.prog 55 [.agg ⟨x.cells g⟩] F (.bool (forceB x)) := by
  rcases hg with (⟨b, o, n, c, rfl⟩ | ⟨n, c, rfl⟩) | ⟨b, o, gsp, n, c, rfl⟩ <;> refine C.go hT Try.func55 Try.ntmps55 ?_
  all_goals (repeat' (first | refine st ?_ | refine nl ?_ | refine sq ?_ | refine rg ?_ | refine bl ?_ | refine sk ?_ | refine bk ?_ | refine bx ?_ | refine al ?_ | refine so ?_ | refine mk ?_ | refine ex ?_ | refine lb ?_ | refine cT ?_ | refine cF ?_ | refine sg ?_ | refine sp ?_ | refine su ?_ | refine gD (fun _ => ?_) (fun _ => ?_) | refine gN (fun _ => ?_) (fun _ => ?_) | refine cD (fun _ => ?_) (fun _ => ?_) | refine cN (fun _ => ?_) (fun _ => ?_)))
  all_goals (refine rt ⟨?_, rfl⟩; simp only [forceB, Value.bool.injEq, eq_comm (a := false), eq_comm (a := true), decide_eq_true_eq, decide_eq_false_iff_not, decide_eq_decide]; omega)
def costB (x : Item) : Int := if x.kind = 3 then x.cost else 0
def flagB (x : Item) : Bool := decide (x.kind = 3) && x.flag
end Go.Proofs.Ytnkddjdmpnghmaa.Am
namespace Go.Proofs.Ytnkddjdmpnghmaa.Am
set_option linter.unusedSimpArgs false
set_option linter.unusedVariables false
set_option maxRecDepth 100000
set_option maxHeartbeats 4000000
open Go Go.RowKit
theorem all_take {l : List Item} {k : Nat} (h : k < l.length) : (l.take (k + 1)).all Item.ok = ((l.take k).all Item.ok && (at_ l k).ok) := by
  have : l.take (k + 1) = l.take k ++ [at_ l k] := by
    rw [List.take_add_one, at_get h]; rfl
  rw [this, List.all_append]; simp
theorem all_false {l : List Item} {k : Nat} (h : k < l.length) (hf : (at_ l k).ok = false) : l.all Item.ok = false := by
  rw [List.all_eq_false]
  exact ⟨at_ l k, List.mem_of_getElem? (at_get h), by simp [hf]⟩
theorem IGood_C (F : Mem) (v : Value) (l : List Item) (hv : RItems F v l) : C0 Try.prog 26 [v] F (.bool (goodL l)) := by
  rcases hv.cases with ⟨b, off, c, rfl, hlen, hr⟩ | ⟨rfl, rfl⟩
  · refine C.go hT Try.func26 Try.ntmps26 ?_
    (repeat (first | refine st ?_ | refine nl ?_ | refine sq ?_ | refine rg ?_ | refine bl ?_ | refine sk ?_ | refine bk ?_ | refine bx ?_ | refine al ?_ | refine so ?_ | refine mk ?_ | refine ex ?_ | refine lb ?_ | refine cT ?_ | refine cF ?_ | refine sg ?_ | refine sp ?_ | refine su ?_))
    refine gD (fun h0 => ?_) (fun h0 => ?_)
    · (repeat (first | refine st ?_ | refine nl ?_ | refine sq ?_ | refine rg ?_ | refine bl ?_ | refine sk ?_ | refine bk ?_ | refine bx ?_ | refine al ?_ | refine so ?_ | refine mk ?_ | refine ex ?_ | refine lb ?_ | refine cT ?_ | refine cF ?_ | refine sg ?_ | refine sp ?_ | refine su ?_))
      refine rt ⟨?_, rfl⟩
      simp only [Value.bool.injEq, goodL]
      have : ¬ (1 ≤ l.length ∧ l.length ≤ 1024) := by omega
      simp [this]
    · (repeat (first | refine st ?_ | refine nl ?_ | refine sq ?_ | refine rg ?_ | refine bl ?_ | refine sk ?_ | refine bk ?_ | refine bx ?_ | refine al ?_ | refine so ?_ | refine mk ?_ | refine ex ?_ | refine lb ?_ | refine cT ?_ | refine cF ?_ | refine sg ?_ | refine sp ?_ | refine su ?_))
      refine cD (fun h1 => ?_) (fun h1 => ?_)
      · (repeat (first | refine st ?_ | refine nl ?_ | refine sq ?_ | refine rg ?_ | refine bl ?_ | refine sk ?_ | refine bk ?_ | refine bx ?_ | refine al ?_ | refine so ?_ | refine mk ?_ | refine ex ?_ | refine lb ?_ | refine cT ?_ | refine cF ?_ | refine sg ?_ | refine sp ?_ | refine su ?_))
        refine rt ⟨?_, rfl⟩
        simp only [Value.bool.injEq, goodL]
        have : ¬ (1 ≤ l.length ∧ l.length ≤ 1024) := by omega
        simp [this]
      · (repeat (first | refine st ?_ | refine nl ?_ | refine sq ?_ | refine rg ?_ | refine bl ?_ | refine sk ?_ | refine bk ?_ | refine bx ?_ | refine al ?_ | refine so ?_ | refine mk ?_ | refine ex ?_ | refine lb ?_ | refine cT ?_ | refine cF ?_ | refine sg ?_ | refine sp ?_ | refine su ?_))
        refine J.loopS (α := Nat) (fun k => k ≤ l.length ∧ (l.take k).all Item.ok = true) (fun k => [(0, .slice (some ⟨b, off, none⟩) l.length c), (14, .slice (some ⟨b, off, none⟩) l.length c), (15, .int .i64 l.length), (16, .int .i64 k)]) (fun _ => []) (fun k => l.length - k) 0 ⟨Nat.zero_le _, rfl⟩ ⟨rfl, rfl, rfl, rfl, trivial⟩ trivial ?_
        rintro k ⟨hk, hok⟩
        (repeat (first | refine st ?_ | refine nl ?_ | refine sq ?_ | refine rg ?_ | refine bl ?_ | refine sk ?_ | refine bk ?_ | refine bx ?_ | refine al ?_ | refine so ?_ | refine mk ?_ | refine ex ?_ | refine lb ?_ | refine cT ?_ | refine cF ?_ | refine sg ?_ | refine sp ?_ | refine su ?_))
        refine cD (fun h2 => ?_) (fun h2 => ?_)
        · have hkl : k < l.length := by omega
          obtain ⟨r0, r1, r2, r3, r4, r5, g, hg, hri⟩ := hr k hkl
          have hN : rdN F [] ⟨b, off + k * 11, none⟩ 11 = some ((at_ l k).cells g) := hg
          have hx := all_take hkl
          have hxf := all_false (l := l) hkl
          generalize at_ l k = x at *
          rcases hri with (⟨gb, go, gc, rfl, _, _⟩ | ⟨rfl, _⟩) | ⟨gb, go, gsp, rfl, _⟩
          all_goals
            (repeat' (first | refine st ?_ | refine nl ?_ | refine sq ?_ | refine rg ?_ | refine bl ?_ | refine sk ?_ | refine bk ?_ | refine bx ?_ | refine al ?_ | refine so ?_ | refine mk ?_ | refine ex ?_ | refine lb ?_ | refine cT ?_ | refine cF ?_ | refine sg ?_ | refine sp ?_ | refine su ?_ | refine gD (fun _ => ?_) (fun _ => ?_) | refine gN (fun _ => ?_) (fun _ => ?_) | refine cD (fun _ => ?_) (fun _ => ?_) | refine cN (fun _ => ?_) (fun _ => ?_) | refine cl ?_ (h := by exact fun _ _ _ => sized_C _ _) | refine clg ?_ (h := by exact fun _ _ _ => sized_C _ _)))
            all_goals first
              | (refine rt ⟨?_, rfl⟩
                 have hq := hxf (by simp only [Item.ok, decide_eq_false_iff_not]; omega)
                 simp only [Value.bool.injEq, goodL, hq, Bool.and_false, Bool.false_and])
              | (have hq : x.ok = true := by
                   simp only [Item.ok, decide_eq_true_eq]; omega
                 refine J.back ⟨k + 1, by omega, ⟨hkl, by rw [hx, hok, hq]; rfl⟩, rfl, ⟨rfl, rfl, rfl, rfl, trivial⟩, trivial⟩)
        · have hkl : k = l.length := by omega
          subst hkl
          have hl1 : l.length - 1 < l.length := by omega
          obtain ⟨r0, r1, r2, r3, r4, r5, g, hg, hri⟩ := hr _ hl1
          have q0 := (hr 0 (by omega)).1
          have hgd : goodL l = (decide ((at_ l 0).kind = 1) && decide ((at_ l (l.length - 1)).kind = 3) && decide ((at_ l (l.length - 1)).cost = -10000)) := by
            rw [List.take_length] at hok
            have : 1 ≤ l.length ∧ l.length ≤ 1024 := by omega
            simp [goodL, hok, this]
          rw [hgd]
          generalize at_ l (l.length - 1) = x at *
          generalize at_ l 0 = y at *
          clear hr hok hv hgd
          have e1 : ((l.length : Int) - 1).toNat = l.length - 1 := by omega
          rw [← e1] at r0 r1 r2 r3 r4 r5 hg
          have hN : rdN F [] ⟨b, off + ((l.length : Int) - 1).toNat * 11, none⟩ 11 = some (x.cells g) := hg
          rcases hri with (⟨gb, go, gc, rfl, _, _⟩ | ⟨rfl, _⟩) | ⟨gb, go, gsp, rfl, _⟩
          all_goals
            (repeat' (first | refine st ?_ | refine nl ?_ | refine sq ?_ | refine rg ?_ | refine bl ?_ | refine sk ?_ | refine bk ?_ | refine bx ?_ | refine al ?_ | refine so ?_ | refine mk ?_ | refine ex ?_ | refine lb ?_ | refine cT ?_ | refine cF ?_ | refine sg ?_ | refine sp ?_ | refine su ?_ | refine gD (fun _ => ?_) (fun _ => ?_) | refine gN (fun _ => ?_) (fun _ => ?_) | refine cD (fun _ => ?_) (fun _ => ?_) | refine cN (fun _ => ?_) (fun _ => ?_)))
            all_goals (refine rt ⟨?_, rfl⟩; simp [*])
  · refine C.go hT Try.func26 Try.ntmps26 ?_
    (repeat' (first | refine st ?_ | refine nl ?_ | refine sq ?_ | refine rg ?_ | refine bl ?_ | refine sk ?_ | refine bk ?_ | refine bx ?_ | refine al ?_ | refine so ?_ | refine mk ?_ | refine ex ?_ | refine lb ?_ | refine cT ?_ | refine cF ?_ | refine sg ?_ | refine sp ?_ | refine su ?_ | refine gD (fun _ => ?_) (fun _ => ?_) | refine gN (fun _ => ?_) (fun _ => ?_) | refine cD (fun _ => ?_) (fun _ => ?_) | refine cN (fun _ => ?_) (fun _ => ?_)))
    all_goals (exact rt ⟨rfl, rfl⟩)
end Go.Proofs.Ytnkddjdmpnghmaa.Am
namespace Go.Proofs.Ytnkddjdmpnghmaa.Am
set_option linter.unusedSimpArgs false
set_option linter.unusedVariables false
set_option maxRecDepth 100000
set_option maxHeartbeats 4000000
open Go Go.RowKit
theorem RGood_C (F : Mem) (v : Value) (l : List Item) (hv : RItems F v l) : C0 Try.prog 22 [v] F (.bool (goodL l)) := by
  rcases hv.cases with ⟨b, off, c, rfl, hlen, hr⟩ | ⟨rfl, rfl⟩
  · by_cases hn : 1 ≤ l.length
    · have hl1 : l.length - 1 < l.length := by omega
      have q0 := (hr 0 (by omega)).1
      obtain ⟨r0, _, _, _, r4, _, _⟩ := hr _ hl1
      have hgd : goodL l = (decide (l.length ≤ 1024) && l.all Item.ok && decide ((at_ l 0).kind = 1) && decide ((at_ l (l.length - 1)).kind = 3) && decide ((at_ l (l.length - 1)).cost = -10000)) := by simp [goodL, hn]
      rw [hgd]
      clear hgd
      generalize at_ l (l.length - 1) = z at r0 r4 ⊢
      generalize at_ l 0 = y at q0 ⊢
      have e1 : ((l.length : Int) - 1).toNat = l.length - 1 := by omega
      rw [← e1] at r0 r4
      refine C.go hT Try.func22 Try.ntmps22 ?_
      (repeat (first | refine st ?_ | refine nl ?_ | refine sq ?_ | refine rg ?_ | refine bl ?_ | refine sk ?_ | refine bk ?_ | refine bx ?_ | refine al ?_ | refine so ?_ | refine mk ?_ | refine ex ?_ | refine lb ?_ | refine cT ?_ | refine cF ?_ | refine sg ?_ | refine sp ?_ | refine su ?_))
      refine gD (fun h0 => ?_) (fun h0 => ?_)
      · omega
      · (repeat (first | refine st ?_ | refine nl ?_ | refine sq ?_ | refine rg ?_ | refine bl ?_ | refine sk ?_ | refine bk ?_ | refine bx ?_ | refine al ?_ | refine so ?_ | refine mk ?_ | refine ex ?_ | refine lb ?_ | refine cT ?_ | refine cF ?_ | refine sg ?_ | refine sp ?_ | refine su ?_))
        refine gD (fun h1 => ?_) (fun h1 => ?_)
        · (repeat (first | refine st ?_ | refine nl ?_ | refine sq ?_ | refine rg ?_ | refine bl ?_ | refine sk ?_ | refine bk ?_ | refine bx ?_ | refine al ?_ | refine so ?_ | refine mk ?_ | refine ex ?_ | refine lb ?_ | refine cT ?_ | refine cF ?_ | refine sg ?_ | refine sp ?_ | refine su ?_))
          refine rt ⟨?_, rfl⟩
          simp only [Value.bool.injEq, eq_comm (a := false)]
          have : ¬ l.length ≤ 1024 := by omega
          simp [this]
        · have h1' : l.length ≤ 1024 := by omega
          (repeat (first | refine st ?_ | refine nl ?_ | refine sq ?_ | refine rg ?_ | refine bl ?_ | refine sk ?_ | refine bk ?_ | refine bx ?_ | refine al ?_ | refine so ?_ | refine mk ?_ | refine ex ?_ | refine lb ?_ | refine cT ?_ | refine cF ?_ | refine sg ?_ | refine sp ?_ | refine su ?_))
          refine gN (fun h2 => ?_) (fun h2 => ?_)
          · (repeat (first | refine st ?_ | refine nl ?_ | refine sq ?_ | refine rg ?_ | refine bl ?_ | refine sk ?_ | refine bk ?_ | refine bx ?_ | refine al ?_ | refine so ?_ | refine mk ?_ | refine ex ?_ | refine lb ?_ | refine cT ?_ | refine cF ?_ | refine sg ?_ | refine sp ?_ | refine su ?_))
            refine rt ⟨?_, rfl⟩
            simp [h2]
          · (repeat (first | refine st ?_ | refine nl ?_ | refine sq ?_ | refine rg ?_ | refine bl ?_ | refine sk ?_ | refine bk ?_ | refine bx ?_ | refine al ?_ | refine so ?_ | refine mk ?_ | refine ex ?_ | refine lb ?_ | refine cT ?_ | refine cF ?_ | refine sg ?_ | refine sp ?_ | refine su ?_))
            refine gN (fun h3 => ?_) (fun h3 => ?_)
            · (repeat (first | refine st ?_ | refine nl ?_ | refine sq ?_ | refine rg ?_ | refine bl ?_ | refine sk ?_ | refine bk ?_ | refine bx ?_ | refine al ?_ | refine so ?_ | refine mk ?_ | refine ex ?_ | refine lb ?_ | refine cT ?_ | refine cF ?_ | refine sg ?_ | refine sp ?_ | refine su ?_))
              refine rt ⟨?_, rfl⟩
              simp [h3]
            · (repeat (first | refine st ?_ | refine nl ?_ | refine sq ?_ | refine rg ?_ | refine bl ?_ | refine sk ?_ | refine bk ?_ | refine bx ?_ | refine al ?_ | refine so ?_ | refine mk ?_ | refine ex ?_ | refine lb ?_ | refine cT ?_ | refine cF ?_ | refine sg ?_ | refine sp ?_ | refine su ?_))
              refine cN (fun h4 => ?_) (fun h4 => ?_)
              · (repeat (first | refine st ?_ | refine nl ?_ | refine sq ?_ | refine rg ?_ | refine bl ?_ | refine sk ?_ | refine bk ?_ | refine bx ?_ | refine al ?_ | refine so ?_ | refine mk ?_ | refine ex ?_ | refine lb ?_ | refine cT ?_ | refine cF ?_ | refine sg ?_ | refine sp ?_ | refine su ?_))
                refine rt ⟨?_, rfl⟩
                simp [h4]
              · simp only [h1', h2, h3, h4, decide_true, Bool.true_and, Bool.and_true]
                clear q0 r0 r4 h2 h3 h4 e1
                (repeat (first | refine st ?_ | refine nl ?_ | refine sq ?_ | refine rg ?_ | refine bl ?_ | refine sk ?_ | refine bk ?_ | refine bx ?_ | refine al ?_ | refine so ?_ | refine mk ?_ | refine ex ?_ | refine lb ?_ | refine cT ?_ | refine cF ?_ | refine sg ?_ | refine sp ?_ | refine su ?_))
                refine J.loopS (α := Nat) (fun k => k ≤ l.length ∧ (l.take k).all Item.ok = true) (fun k => [(0, .slice (some ⟨b, off, none⟩) l.length c), (3, .int .i64 k)]) (fun _ => []) (fun k => l.length - k) 0 ⟨Nat.zero_le _, rfl⟩ ⟨rfl, rfl, trivial⟩ trivial ?_
                rintro k ⟨hk, hok⟩
                (repeat (first | refine st ?_ | refine nl ?_ | refine sq ?_ | refine rg ?_ | refine bl ?_ | refine sk ?_ | refine bk ?_ | refine bx ?_ | refine al ?_ | refine so ?_ | refine mk ?_ | refine ex ?_ | refine lb ?_ | refine cT ?_ | refine cF ?_ | refine sg ?_ | refine sp ?_ | refine su ?_))
                refine cD (fun h2 => ?_) (fun h2 => ?_)
                · have hkl : k < l.length := by omega
                  obtain ⟨r0, r1, r2, r3, r4, r5, g, hg, hri⟩ := hr k hkl
                  have hN : rdN F [] ⟨b, off + k * 11, none⟩ 11 = some ((at_ l k).cells g) := hg
                  have hx := all_take hkl
                  have hxf := all_false (l := l) hkl
                  clear hr
                  generalize at_ l k = x at *
                  rcases hri with (⟨gb, go, gc, rfl, _, _⟩ | ⟨rfl, _⟩) | ⟨gb, go, gsp, rfl, _⟩
                  all_goals
                    (repeat' (first | refine st ?_ | refine nl ?_ | refine sq ?_ | refine rg ?_ | refine bl ?_ | refine sk ?_ | refine bk ?_ | refine bx ?_ | refine al ?_ | refine so ?_ | refine mk ?_ | refine ex ?_ | refine lb ?_ | refine cT ?_ | refine cF ?_ | refine sg ?_ | refine sp ?_ | refine su ?_ | refine gD (fun _ => ?_) (fun _ => ?_) | refine gN (fun _ => ?_) (fun _ => ?_) | refine cD (fun _ => ?_) (fun _ => ?_) | refine cN (fun _ => ?_) (fun _ => ?_)))
                    all_goals first
                      | (refine rt ⟨?_, rfl⟩
                         rw [hxf (by simp only [Item.ok, decide_eq_false_iff_not]; omega)])
                      | (have hq : x.ok = true := by
                           simp only [Item.ok, decide_eq_true_eq]; omega
                         refine J.back ⟨k + 1, by omega, ⟨hkl, by rw [hx, hok, hq]; rfl⟩, rfl, ⟨rfl, rfl, trivial⟩, trivial⟩)
                · have hkl : k = l.length := by omega
                  subst hkl
                  rw [List.take_length] at hok
                  (repeat (first | refine st ?_ | refine nl ?_ | refine sq ?_ | refine rg ?_ | refine bl ?_ | refine sk ?_ | refine bk ?_ | refine bx ?_ | refine al ?_ | refine so ?_ | refine mk ?_ | refine ex ?_ | refine lb ?_ | refine cT ?_ | refine cF ?_ | refine sg ?_ | refine sp ?_ | refine su ?_))
                  refine rt ⟨?_, rfl⟩
                  rw [hok]
    · have h0 : goodL l = false := by simp [goodL, hn]
      rw [h0]
      refine C.go hT Try.func22 Try.ntmps22 ?_
      (repeat (first | refine st ?_ | refine nl ?_ | refine sq ?_ | refine rg ?_ | refine bl ?_ | refine sk ?_ | refine bk ?_ | refine bx ?_ | refine al ?_ | refine so ?_ | refine mk ?_ | refine ex ?_ | refine lb ?_ | refine cT ?_ | refine cF ?_ | refine sg ?_ | refine sp ?_ | refine su ?_))
      refine gD (fun h0 => ?_) (fun h0 => ?_)
      · (repeat (first | refine st ?_ | refine nl ?_ | refine sq ?_ | refine rg ?_ | refine bl ?_ | refine sk ?_ | refine bk ?_ | refine bx ?_ | refine al ?_ | refine so ?_ | refine mk ?_ | refine ex ?_ | refine lb ?_ | refine cT ?_ | refine cF ?_ | refine sg ?_ | refine sp ?_ | refine su ?_))
        exact rt ⟨rfl, rfl⟩
      · omega
  · refine C.go hT Try.func22 Try.ntmps22 ?_
    (repeat' (first | refine st ?_ | refine nl ?_ | refine sq ?_ | refine rg ?_ | refine bl ?_ | refine sk ?_ | refine bk ?_ | refine bx ?_ | refine al ?_ | refine so ?_ | refine mk ?_ | refine ex ?_ | refine lb ?_ | refine cT ?_ | refine cF ?_ | refine sg ?_ | refine sp ?_ | refine su ?_ | refine gD (fun _ => ?_) (fun _ => ?_) | refine gN (fun _ => ?_) (fun _ => ?_) | refine cD (fun _ => ?_) (fun _ => ?_) | refine cN (fun _ => ?_) (fun _ => ?_)))
    all_goals (exact rt ⟨rfl, rfl⟩)
/-- may a line end at an item? -/
def legalB (l : List Item) (i : Int) : Bool := decide (0 ≤ i ∧ i < l.length) && ((decide ((at_ l i.toNat).kind = 2) && decide (0 < i) && decide ((at_ l (i - 1).toNat).kind = 1)) || (decide ((at_ l i.toNat).kind = 3) && decide ((at_ l i.toNat).cost < 10000)))
theorem RLegal_C (F : Mem) (v : Value) (l : List Item) (i : Int) (hv : RItems F v l) : C0 Try.prog 44 [v, .int .i64 i] F (.bool (legalB l i)) := by
  by_cases hi : 0 ≤ i ∧ i < l.length
  · obtain ⟨k, rfl⟩ := Int.eq_ofNat_of_zero_le hi.1
    have hkl : k < l.length := by omega
    rcases hv.cases with ⟨b, off, c, rfl, hlen, hr⟩ | ⟨rfl, rfl⟩
    · obtain ⟨r0, _, _, _, r4, _, _⟩ := hr k hkl
      have p0 : 0 < k → look F ⟨b, off + ((k : Int) - 1).toNat * 11 + 0, none⟩ = some (.int .i64 (at_ l ((k : Int) - 1).toNat).kind) := fun h => (hr _ (by omega)).1
      have hL : legalB l (k : Int) = ((decide ((at_ l k).kind = 2) && decide ((0 : Int) < (k : Int)) && decide ((at_ l ((k : Int) - 1).toNat).kind = 1)) || (decide ((at_ l k).kind = 3) && decide ((at_ l k).cost < 10000))) := by simp [legalB, hkl]
      rw [hL]
      clear hr hv hL
      generalize at_ l k = x at r0 r4 ⊢
      generalize at_ l ((k : Int) - 1).toNat = y at p0 ⊢
      refine C.go hT Try.func44 Try.ntmps44 ?_
      by_cases hk0 : 0 < k
      · have p := p0 hk0
        (repeat' (first | refine st ?_ | refine nl ?_ | refine sq ?_ | refine rg ?_ | refine bl ?_ | refine sk ?_ | refine bk ?_ | refine bx ?_ | refine al ?_ | refine so ?_ | refine mk ?_ | refine ex ?_ | refine lb ?_ | refine cT ?_ | refine cF ?_ | refine sg ?_ | refine sp ?_ | refine su ?_ | refine gD (fun _ => ?_) (fun _ => ?_) | refine gN (fun _ => ?_) (fun _ => ?_) | refine cD (fun _ => ?_) (fun _ => ?_) | refine cN (fun _ => ?_) (fun _ => ?_)))
        all_goals first
          | (exfalso; omega)
          | (refine rt ⟨?_, rfl⟩; simp [*])
      · (repeat' (first | refine st ?_ | refine nl ?_ | refine sq ?_ | refine rg ?_ | refine bl ?_ | refine sk ?_ | refine bk ?_ | refine bx ?_ | refine al ?_ | refine so ?_ | refine mk ?_ | refine ex ?_ | refine lb ?_ | refine cT ?_ | refine cF ?_ | refine sg ?_ | refine sp ?_ | refine su ?_ | refine gD (fun _ => ?_) (fun _ => ?_) | refine gN (fun _ => ?_) (fun _ => ?_) | refine cD (fun _ => ?_) (fun _ => ?_) | refine cN (fun _ => ?_) (fun _ => ?_)))
        all_goals first
          | (exfalso; omega)
          | (refine rt ⟨?_, rfl⟩; simp [*])
    · simp at hkl
  · have h0 : legalB l i = false := by simp only [legalB, hi, decide_false, Bool.false_and]
    rw [h0]
    rcases hv.cases with ⟨b, off, c, rfl, hlen, hr⟩ | ⟨rfl, rfl⟩
    all_goals
      refine C.go hT Try.func44 Try.ntmps44 ?_
      (repeat (first | refine st ?_ | refine nl ?_ | refine sq ?_ | refine rg ?_ | refine bl ?_ | refine sk ?_ | refine bk ?_ | refine bx ?_ | refine al ?_ | refine so ?_ | refine mk ?_ | refine ex ?_ | refine lb ?_ | refine cT ?_ | refine cF ?_ | refine sg ?_ | refine sp ?_ | refine su ?_))
      refine gD (fun h0 => ?_) (fun h0 => ?_)
      · (repeat (first | refine st ?_ | refine nl ?_ | refine sq ?_ | refine rg ?_ | refine bl ?_ | refine sk ?_ | refine bk ?_ | refine bx ?_ | refine al ?_ | refine so ?_ | refine mk ?_ | refine ex ?_ | refine lb ?_ | refine cT ?_ | refine cF ?_ | refine sg ?_ | refine sp ?_ | refine su ?_))
        exact rt ⟨rfl, rfl⟩
      · (repeat (first | refine st ?_ | refine nl ?_ | refine sq ?_ | refine rg ?_ | refine bl ?_ | refine sk ?_ | refine bk ?_ | refine bx ?_ | refine al ?_ | refine so ?_ | refine mk ?_ | refine ex ?_ | refine lb ?_ | refine cT ?_ | refine cF ?_ | refine sg ?_ | refine sp ?_ | refine su ?_))
        refine cD (fun h1 => ?_) (fun h1 => ?_)
        · (repeat (first | refine st ?_ | refine nl ?_ | refine sq ?_ | refine rg ?_ | refine bl ?_ | refine sk ?_ | refine bk ?_ | refine bx ?_ | refine al ?_ | refine so ?_ | refine mk ?_ | refine ex ?_ | refine lb ?_ | refine cT ?_ | refine cF ?_ | refine sg ?_ | refine sp ?_ | refine su ?_))
          exact rt ⟨rfl, rfl⟩
        · first | (exfalso; omega) | (exfalso; simp at h1 h0 hi; omega)
end Go.Proofs.Ytnkddjdmpnghmaa.Am
namespace Go.Proofs.Ytnkddjdmpnghmaa.Am
set_option linter.unusedSimpArgs false
set_option linter.unusedVariables false
set_option maxRecDepth 100000
set_option maxHeartbeats 4000000
open Go Go.RowKit
def ints (xs : List Int) (i : Nat) : Int := xs.getD i 0
theorem ints_get {xs : List Int} {i : Nat} (h : i < xs.length) : xs[i]? = some (ints xs i) := by simp [ints, List.getD_eq_getElem?_getD, List.getElem?_eq_getElem h]
theorem same_take {xs ys : List Int} {k : Nat} (hl : xs.length = ys.length) (hk : k < xs.length) (h : xs.take k = ys.take k) (e : ints xs k = ints ys k) : xs.take (k + 1) = ys.take (k + 1) := by
  rw [List.take_add_one, List.take_add_one, h, ints_get hk, ints_get (hl ▸ hk), e]
theorem Same_C (F : Mem) (v u : Value) (xs ys : List Int) (hv : RInts F v xs) (hu : RInts F u ys) : C0 Try.prog 16 [v, u] F (.bool (decide (xs = ys))) := by
  rcases hv with ⟨b, off, c, rfl, hlen, hr⟩ | ⟨rfl, rfl⟩ <;> rcases hu with ⟨b2, off2, c2, rfl, hlen2, hr2⟩ | ⟨rfl, rfl⟩
  · refine C.go hT Try.func16 Try.ntmps16 ?_
    (repeat (first | refine st ?_ | refine nl ?_ | refine sq ?_ | refine rg ?_ | refine bl ?_ | refine sk ?_ | refine bk ?_ | refine bx ?_ | refine al ?_ | refine so ?_ | refine mk ?_ | refine ex ?_ | refine lb ?_ | refine cT ?_ | refine cF ?_ | refine sg ?_ | refine sp ?_ | refine su ?_))
    refine cN (fun h0 => ?_) (fun h0 => ?_)
    · (repeat (first | refine st ?_ | refine nl ?_ | refine sq ?_ | refine rg ?_ | refine bl ?_ | refine sk ?_ | refine bk ?_ | refine bx ?_ | refine al ?_ | refine so ?_ | refine mk ?_ | refine ex ?_ | refine lb ?_ | refine cT ?_ | refine cF ?_ | refine sg ?_ | refine sp ?_ | refine su ?_))
      refine rt ⟨?_, rfl⟩
      have : xs ≠ ys := fun e => h0 (by rw [e])
      simp [this]
    · have hl : xs.length = ys.length := by omega
      (repeat (first | refine st ?_ | refine nl ?_ | refine sq ?_ | refine rg ?_ | refine bl ?_ | refine sk ?_ | refine bk ?_ | refine bx ?_ | refine al ?_ | refine so ?_ | refine mk ?_ | refine ex ?_ | refine lb ?_ | refine cT ?_ | refine cF ?_ | refine sg ?_ | refine sp ?_ | refine su ?_))
      refine J.loopS (α := Nat) (fun k => k ≤ xs.length ∧ xs.take k = ys.take k) (fun k => [(0, .slice (some ⟨b, off, none⟩) xs.length c), (1, .slice (some ⟨b2, off2, none⟩) ys.length c2), (5, .int .i64 k)]) (fun _ => []) (fun k => xs.length - k) 0 ⟨Nat.zero_le _, rfl⟩ ⟨rfl, rfl, rfl, trivial⟩ trivial ?_
      rintro k ⟨hk, hok⟩
      (repeat (first | refine st ?_ | refine nl ?_ | refine sq ?_ | refine rg ?_ | refine bl ?_ | refine sk ?_ | refine bk ?_ | refine bx ?_ | refine al ?_ | refine so ?_ | refine mk ?_ | refine ex ?_ | refine lb ?_ | refine cT ?_ | refine cF ?_ | refine sg ?_ | refine sp ?_ | refine su ?_))
      refine cD (fun h2 => ?_) (fun h2 => ?_)
      · have hkl : k < xs.length := by omega
        have r1 : look F ⟨b, off + k * 1, none⟩ = some (.int .i64 (ints xs k)) := by rw [Nat.mul_one]; exact hr k _ (ints_get hkl)
        have r2 : look F ⟨b2, off2 + k * 1, none⟩ = some (.int .i64 (ints ys k)) := by rw [Nat.mul_one]; exact hr2 k _ (ints_get (by omega))
        have hs := same_take hl hkl hok
        have hne : ints xs k ≠ ints ys k → xs ≠ ys := fun h e => h (by rw [e])
        generalize ints xs k = x at *
        generalize ints ys k = y at *
        (repeat (first | refine st ?_ | refine nl ?_ | refine sq ?_ | refine rg ?_ | refine bl ?_ | refine sk ?_ | refine bk ?_ | refine bx ?_ | refine al ?_ | refine so ?_ | refine mk ?_ | refine ex ?_ | refine lb ?_ | refine cT ?_ | refine cF ?_ | refine sg ?_ | refine sp ?_ | refine su ?_))
        refine dr 9 [] [0, 1, 2, 3, 4, 5, 6, 7, 8] ?_
        (repeat (first | refine dt ?_ | refine dg ?_ | refine dp ?_ | refine du ?_ | refine dq ?_ | refine dqg ?_ | refine dqp ?_ | refine dqu ?_ | refine dso ?_ | refine dal ?_ | refine dmk ?_ | refine dbx ?_ | refine dv ?_ | refine dpe ?_ | refine dn ?_ | refine st ?_ | refine nl ?_ | refine sq ?_ | refine rg ?_ | refine bl ?_ | refine sk ?_ | refine bk ?_ | refine bx ?_ | refine al ?_ | refine so ?_ | refine mk ?_ | refine ex ?_ | refine lb ?_ | refine cT ?_ | refine cF ?_ | refine sg ?_ | refine sp ?_ | refine su ?_))
        refine cN (fun h3 => ?_) (fun h3 => ?_)
        · (repeat (first | refine st ?_ | refine nl ?_ | refine sq ?_ | refine rg ?_ | refine bl ?_ | refine sk ?_ | refine bk ?_ | refine bx ?_ | refine al ?_ | refine so ?_ | refine mk ?_ | refine ex ?_ | refine lb ?_ | refine cT ?_ | refine cF ?_ | refine sg ?_ | refine sp ?_ | refine su ?_))
          refine rt ⟨?_, rfl⟩
          simp [hne h3]
        · (repeat (first | refine st ?_ | refine nl ?_ | refine sq ?_ | refine rg ?_ | refine bl ?_ | refine sk ?_ | refine bk ?_ | refine bx ?_ | refine al ?_ | refine so ?_ | refine mk ?_ | refine ex ?_ | refine lb ?_ | refine cT ?_ | refine cF ?_ | refine sg ?_ | refine sp ?_ | refine su ?_))
          refine J.back ⟨k + 1, by omega, ⟨hkl, hs h3⟩, rfl, ⟨rfl, rfl, rfl, trivial⟩, trivial⟩
      · have hkl : k = xs.length := by omega
        subst hkl
        rw [List.take_length, hl, List.take_length] at hok
        (repeat (first | refine st ?_ | refine nl ?_ | refine sq ?_ | refine rg ?_ | refine bl ?_ | refine sk ?_ | refine bk ?_ | refine bx ?_ | refine al ?_ | refine so ?_ | refine mk ?_ | refine ex ?_ | refine lb ?_ | refine cT ?_ | refine cF ?_ | refine sg ?_ | refine sp ?_ | refine su ?_))
        refine rt ⟨?_, rfl⟩
        simp [hok]
  · refine C.go hT Try.func16 Try.ntmps16 ?_
    (repeat (first | refine st ?_ | refine nl ?_ | refine sq ?_ | refine rg ?_ | refine bl ?_ | refine sk ?_ | refine bk ?_ | refine bx ?_ | refine al ?_ | refine so ?_ | refine mk ?_ | refine ex ?_ | refine lb ?_ | refine cT ?_ | refine cF ?_ | refine sg ?_ | refine sp ?_ | refine su ?_))
    refine cN (fun h0 => ?_) (fun h0 => ?_)
    · (repeat (first | refine st ?_ | refine nl ?_ | refine sq ?_ | refine rg ?_ | refine bl ?_ | refine sk ?_ | refine bk ?_ | refine bx ?_ | refine al ?_ | refine so ?_ | refine mk ?_ | refine ex ?_ | refine lb ?_ | refine cT ?_ | refine cF ?_ | refine sg ?_ | refine sp ?_ | refine su ?_))
      refine rt ⟨?_, rfl⟩
      have : xs ≠ [] := fun e => h0 (by rw [e]; rfl)
      simp [this]
    · have : xs = [] := List.eq_nil_of_length_eq_zero (by omega)
      subst this
      (repeat (first | refine st ?_ | refine nl ?_ | refine sq ?_ | refine rg ?_ | refine bl ?_ | refine sk ?_ | refine bk ?_ | refine bx ?_ | refine al ?_ | refine so ?_ | refine mk ?_ | refine ex ?_ | refine lb ?_ | refine cT ?_ | refine cF ?_ | refine sg ?_ | refine sp ?_ | refine su ?_))
      refine J.loopS (α := Unit) (fun _ => True) (fun _ => [(0, .slice (some ⟨b, off, none⟩) 0 c), (5, .int .i64 0)]) (fun _ => []) (fun _ => 0) () trivial ⟨rfl, rfl, trivial⟩ trivial ?_
      rintro _ _
      (repeat (first | refine st ?_ | refine nl ?_ | refine sq ?_ | refine rg ?_ | refine bl ?_ | refine sk ?_ | refine bk ?_ | refine bx ?_ | refine al ?_ | refine so ?_ | refine mk ?_ | refine ex ?_ | refine lb ?_ | refine cT ?_ | refine cF ?_ | refine sg ?_ | refine sp ?_ | refine su ?_))
      exact rt ⟨rfl, rfl⟩
  · refine C.go hT Try.func16 Try.ntmps16 ?_
    (repeat (first | refine st ?_ | refine nl ?_ | refine sq ?_ | refine rg ?_ | refine bl ?_ | refine sk ?_ | refine bk ?_ | refine bx ?_ | refine al ?_ | refine so ?_ | refine mk ?_ | refine ex ?_ | refine lb ?_ | refine cT ?_ | refine cF ?_ | refine sg ?_ | refine sp ?_ | refine su ?_))
    refine cN (fun h0 => ?_) (fun h0 => ?_)
    · (repeat (first | refine st ?_ | refine nl ?_ | refine sq ?_ | refine rg ?_ | refine bl ?_ | refine sk ?_ | refine bk ?_ | refine bx ?_ | refine al ?_ | refine so ?_ | refine mk ?_ | refine ex ?_ | refine lb ?_ | refine cT ?_ | refine cF ?_ | refine sg ?_ | refine sp ?_ | refine su ?_))
      refine rt ⟨?_, rfl⟩
      have : ys ≠ [] := fun e => h0 (by rw [e]; rfl)
      simp [Ne.symm this]
    · have : ys = [] := List.eq_nil_of_length_eq_zero (by omega)
      subst this
      (repeat (first | refine st ?_ | refine nl ?_ | refine sq ?_ | refine rg ?_ | refine bl ?_ | refine sk ?_ | refine bk ?_ | refine bx ?_ | refine al ?_ | refine so ?_ | refine mk ?_ | refine ex ?_ | refine lb ?_ | refine cT ?_ | refine cF ?_ | refine sg ?_ | refine sp ?_ | refine su ?_))
      refine J.loopS (α := Unit) (fun _ => True) (fun _ => [(0, .slice none 0 0), (5, .int .i64 0)]) (fun _ => []) (fun _ => 0) () trivial ⟨rfl, rfl, trivial⟩ trivial ?_
      rintro _ _
      (repeat (first | refine st ?_ | refine nl ?_ | refine sq ?_ | refine rg ?_ | refine bl ?_ | refine sk ?_ | refine bk ?_ | refine bx ?_ | refine al ?_ | refine so ?_ | refine mk ?_ | refine ex ?_ | refine lb ?_ | refine cT ?_ | refine cF ?_ | refine sg ?_ | refine sp ?_ | refine su ?_))
      exact rt ⟨rfl, rfl⟩
  · refine C.go hT Try.func16 Try.ntmps16 ?_
    (repeat (first | refine st ?_ | refine nl ?_ | refine sq ?_ | refine rg ?_ | refine bl ?_ | refine sk ?_ | refine bk ?_ | refine bx ?_ | refine al ?_ | refine so ?_ | refine mk ?_ | refine ex ?_ | refine lb ?_ | refine cT ?_ | refine cF ?_ | refine sg ?_ | refine sp ?_ | refine su ?_))
    refine J.loopS (α := Unit) (fun _ => True) (fun _ => [(0, .slice none 0 0), (5, .int .i64 0)]) (fun _ => []) (fun _ => 0) () trivial ⟨rfl, rfl, trivial⟩ trivial ?_
    rintro _ _
    (repeat (first | refine st ?_ | refine nl ?_ | refine sq ?_ | refine rg ?_ | refine bl ?_ | refine sk ?_ | refine bk ?_ | refine bx ?_ | refine al ?_ | refine so ?_ | refine mk ?_ | refine ex ?_ | refine lb ?_ | refine cT ?_ | refine cF ?_ | refine sg ?_ | refine sp ?_ | refine su ?_))
    exact rt ⟨rfl, rfl⟩
/-- where a line that goes on behind a begins, if it ends at b -/
def skipB (x : Item) : Bool := decide (x.kind = 2) || (decide (x.kind = 3) && decide (-10000 < x.cost))
def beginAt (l : List Item) (b : Nat) : Nat → Nat → Nat
  | 0, i => i
  | d + 1, i => if i < b then (if skipB (at_ l i) = true then beginAt l b d (i + 1) else i) else i
theorem RBegin_C (F : Mem) (v : Value) (l : List Item) (a b : Int) (hv : RItems F v l) (ha : -1 ≤ a) (hb : a < b) (hbl : b < l.length) : C0 Try.prog 52 [v, .int .i64 a, .int .i64 b] F (.int .i64 (beginAt l b.toNat (b.toNat - (a + 1).toNat) (a + 1).toNat)) := by
  obtain ⟨n, rfl⟩ := Int.eq_ofNat_of_zero_le (show (0 : Int) ≤ b by omega)
  obtain ⟨m, hm⟩ := Int.eq_ofNat_of_zero_le (show (0 : Int) ≤ a + 1 by omega)
  have hmn : m ≤ n := by omega
  simp only [Int.toNat_natCast, hm]
  rcases hv.cases with ⟨vb, off, c, rfl, hlen, hr⟩ | ⟨rfl, rfl⟩
  · refine C.go hT Try.func52 Try.ntmps52 ?_
    (repeat (first | refine st ?_ | refine nl ?_ | refine sq ?_ | refine rg ?_ | refine bl ?_ | refine sk ?_ | refine bk ?_ | refine bx ?_ | refine al ?_ | refine so ?_ | refine mk ?_ | refine ex ?_ | refine lb ?_ | refine cT ?_ | refine cF ?_ | refine sg ?_ | refine sp ?_ | refine su ?_))
    rw [hm]
    refine J.loopS (α := Nat) (fun k => k ≤ n ∧ beginAt l n (n - k) k = beginAt l n (n - m) m) (fun k => [(0, .slice (some ⟨vb, off, none⟩) l.length c), (2, .int .i64 n), (7, .int .i64 k)]) (fun _ => []) (fun k => n - k) m ⟨hmn, rfl⟩ ⟨rfl, rfl, rfl, trivial⟩ trivial ?_
    rintro k ⟨hk, hok⟩
    (repeat (first | refine st ?_ | refine nl ?_ | refine sq ?_ | refine rg ?_ | refine bl ?_ | refine sk ?_ | refine bk ?_ | refine bx ?_ | refine al ?_ | refine so ?_ | refine mk ?_ | refine ex ?_ | refine lb ?_ | refine cT ?_ | refine cF ?_ | refine sg ?_ | refine sp ?_ | refine su ?_))
    refine gD (fun h2 => ?_) (fun h2 => ?_)
    · have hkn : k < n := by omega
      obtain ⟨r0, _, _, _, r4, _, _⟩ := hr k (by omega)
      have hst : beginAt l n (n - k) k = if skipB (at_ l k) = true then beginAt l n (n - (k + 1)) (k + 1) else k := by
        rw [show n - k = (n - (k + 1)) + 1 from by omega]
        simp [beginAt, hkn]
      rw [hst] at hok
      clear hr hv hst
      generalize at_ l k = x at r0 r4 hok
      (repeat' (first | refine st ?_ | refine nl ?_ | refine sq ?_ | refine rg ?_ | refine bl ?_ | refine sk ?_ | refine bk ?_ | refine bx ?_ | refine al ?_ | refine so ?_ | refine mk ?_ | refine ex ?_ | refine lb ?_ | refine cT ?_ | refine cF ?_ | refine sg ?_ | refine sp ?_ | refine su ?_ | refine gD (fun _ => ?_) (fun _ => ?_) | refine gN (fun _ => ?_) (fun _ => ?_) | refine cD (fun _ => ?_) (fun _ => ?_) | refine cN (fun _ => ?_) (fun _ => ?_)))
      all_goals first
        | (refine J.back ⟨k + 1, by omega, ⟨by omega, ?_⟩, rfl, ⟨rfl, rfl, rfl, trivial⟩, trivial⟩
           rw [← hok, if_pos (by simp [skipB, *])])
        | (refine rt ⟨?_, rfl⟩
           rw [← hok, if_neg (by simp [skipB, *])])
    · have hkn : k = n := by omega
      subst hkn
      (repeat (first | refine st ?_ | refine nl ?_ | refine sq ?_ | refine rg ?_ | refine bl ?_ | refine sk ?_ | refine bk ?_ | refine bx ?_ | refine al ?_ | refine so ?_ | refine mk ?_ | refine ex ?_ | refine lb ?_ | refine cT ?_ | refine cF ?_ | refine sg ?_ | refine sp ?_ | refine su ?_))
      refine rt ⟨?_, rfl⟩
      rw [← hok]
      simp [beginAt]
  · simp at hbl; omega
end Go.Proofs.Ytnkddjdmpnghmaa.Am
namespace Go.Proofs.Ytnkddjdmpnghmaa.Am
set_option linter.unusedSimpArgs false
set_option linter.unusedVariables false
set_option maxRecDepth 100000
set_option maxHeartbeats 4000000
open Go Go.RowKit
def wS (l : List Item) : Nat → Int
  | 0 => 0
  | n + 1 => wS l n + (if (at_ l n).kind = 3 then 0 else (at_ l n).width)
def yS (l : List Item) : Nat → Int
  | 0 => 0
  | n + 1 => yS l n + (if (at_ l n).kind = 2 then (at_ l n).stretch else 0)
def zS (l : List Item) : Nat → Int
  | 0 => 0
  | n + 1 => zS l n + (if (at_ l n).kind = 2 then (at_ l n).shrink else 0)
def foD (l : List Item) : Nat → Nat → Nat
  | 0, i => i
  | d + 1, i => if forceB (at_ l i) = true then i else foD l d (i + 1)
def bgD (l : List Item) : Nat → Nat → Nat
  | 0, i => i
  | d + 1, i => if forceB (at_ l i) = true then i else if (at_ l i).kind = 1 then i else bgD l d (i + 1)
def foA (l : List Item) (i : Nat) : Nat := foD l (l.length - i) i
def bgA (l : List Item) (i : Nat) : Nat := bgD l (l.length - i) i
theorem foD_bd (l : List Item) : ∀ d i, i ≤ foD l d i ∧ foD l d i ≤ i + d
  | 0, i => by simp [foD]
  | d + 1, i => by
    simp only [foD]
    have := foD_bd l d (i + 1)
    split <;> omega
theorem bgD_bd (l : List Item) : ∀ d i, i ≤ bgD l d i ∧ bgD l d i ≤ i + d
  | 0, i => by simp [bgD]
  | d + 1, i => by
    simp only [bgD]
    have := bgD_bd l d (i + 1)
    split
    · omega
    · split <;> omega
theorem good_ok {l : List Item} (h : goodL l = true) {i : Nat} (hi : i < l.length) : (at_ l i).ok = true := by
  simp only [goodL, Bool.and_eq_true] at h
  exact List.all_eq_true.1 h.1.1.1.2 _ (List.mem_of_getElem? (at_get hi))
theorem good_len {l : List Item} (h : goodL l = true) : 1 ≤ l.length ∧ l.length ≤ 1024 := by
  simp only [goodL, Bool.and_eq_true, decide_eq_true_eq] at h
  exact h.1.1.1.1
theorem sums_bd {l : List Item} (h : goodL l = true) : ∀ n, n ≤ l.length → (0 ≤ wS l n ∧ wS l n ≤ 1073741824 * n) ∧ (0 ≤ yS l n ∧ yS l n ≤ 1073741824 * n) ∧ (0 ≤ zS l n ∧ zS l n ≤ 1073741824 * n)
  | 0, _ => by simp [wS, yS, zS]
  | n + 1, hn => by
    have ih := sums_bd h n (by omega)
    have hk := good_ok h (show n < l.length by omega)
    simp only [Item.ok, decide_eq_true_eq] at hk
    simp only [wS, yS, zS]
    refine ⟨?_, ?_, ?_⟩ <;> split <;> omega
/-- a paragraph made ready, where it lies -/
def RPara (F : Mem) (p : Value) (l : List Item) : Prop :=
  ∃ pb po lb lo lc wb wo wc yb yo yc zb zo zc bb bo bc fb fo fc, p = .pointer (some ⟨pb, po, none⟩) ∧
    (look F ⟨pb, po + 0, none⟩ = some (.slice (some ⟨lb, lo, none⟩) l.length lc) ∧ look F ⟨pb, po + 1, none⟩ = some (.slice (some ⟨wb, wo, none⟩) (l.length + 1) wc) ∧ look F ⟨pb, po + 2, none⟩ = some (.slice (some ⟨yb, yo, none⟩) (l.length + 1) yc) ∧
    look F ⟨pb, po + 3, none⟩ = some (.slice (some ⟨zb, zo, none⟩) (l.length + 1) zc) ∧ look F ⟨pb, po + 4, none⟩ = some (.slice (some ⟨bb, bo, none⟩) (l.length + 1) bc) ∧ look F ⟨pb, po + 5, none⟩ = some (.slice (some ⟨fb, fo, none⟩) (l.length + 1) fc)) ∧
    RItems F (.slice (some ⟨lb, lo, none⟩) l.length lc) l ∧
    (∀ i, i ≤ l.length → look F ⟨wb, wo + i * 1, none⟩ = some (.int .i64 (wS l i)) ∧ look F ⟨yb, yo + i * 1, none⟩ = some (.int .i64 (yS l i)) ∧ look F ⟨zb, zo + i * 1, none⟩ = some (.int .i64 (zS l i)) ∧
      look F ⟨bb, bo + i * 1, none⟩ = some (.int .i64 (bgA l i)) ∧ look F ⟨fb, fo + i * 1, none⟩ = some (.int .i64 (foA l i)))
theorem RPara.le {F F' : Mem} {p : Value} {l : List Item} (h : RPara F p l) (hl : F.le F') : RPara F' p l := by
  obtain ⟨pb, po, lb, lo, lc, wb, wo, wc, yb, yo, yc, zb, zo, zc, bb, bo, bc, fb, fo, fc, h0, ⟨h1, h2, h3, h4, h5, h6⟩, h7, h8⟩ := h
  refine ⟨pb, po, lb, lo, lc, wb, wo, wc, yb, yo, yc, zb, zo, zc, bb, bo, bc, fb, fo, fc, h0, ⟨hl _ _ h1, hl _ _ h2, hl _ _ h3, hl _ _ h4, hl _ _ h5, hl _ _ h6⟩, h7.le hl, fun i hi => ?_⟩
  obtain ⟨g1, g2, g3, g4, g5⟩ := h8 i hi
  exact ⟨hl _ _ g1, hl _ _ g2, hl _ _ g3, hl _ _ g4, hl _ _ g5⟩
def lineV (w y z bad cls : Int) (fits : Bool) : Value := .agg #[.int .i64 w, .int .i64 y, .int .i64 z, .int .i64 bad, .int .i64 cls, .bool fits]
def fromA (l : List Item) (a1 b : Nat) : Nat := min (bgA l a1) b
def mW (l : List Item) (a1 b : Nat) : Int := wS l b - wS l (fromA l a1 b) + (if (at_ l b).kind = 3 then (at_ l b).width else 0)
def mY (l : List Item) (a1 b : Nat) : Int := yS l b - yS l (fromA l a1 b)
def mZ (l : List Item) (a1 b : Nat) : Int := zS l b - zS l (fromA l a1 b)
theorem measure_C (F : Mem) (p : Value) (l : List Item) (a : Int) (a1 b : Nat) (hp : RPara F p l) (hg : goodL l = true) (ha : a + 1 = a1) (ha1 : a1 ≤ l.length) (hb : b < l.length) : C0 Try.prog 38 [p, .int .i64 a, .int .i64 b] F (lineV (mW l a1 b) (mY l a1 b) (mZ l a1 b) 0 0 false) := by
  obtain ⟨pb, po, lb, lo, lc, wb, wo, wc, yb, yo, yc, zb, zo, zc, bb, bo, bc, fb, fo, fc, rfl, ⟨h1, h2, h3, h4, h5, h6⟩, h7, h8⟩ := hp
  have hlen := good_len hg
  have hok := good_ok hg hb
  simp only [Item.ok, decide_eq_true_eq] at hok
  obtain ⟨_, _, _, q1, _⟩ := h8 a1 ha1
  have hfr : fromA l a1 b ≤ b := Nat.min_le_right _ _
  obtain ⟨g1, g2, g3, _, _⟩ := h8 b (by omega)
  obtain ⟨f1, f2, f3, _, _⟩ := h8 (fromA l a1 b) (by omega)
  have s1 := sums_bd hg b (by omega)
  have s2 := sums_bd hg (fromA l a1 b) (by omega)
  have hfi : min (bgA l a1 : Int) (b : Int) = (fromA l a1 b : Nat) := by unfold fromA; omega
  rcases h7.cases with ⟨lb', lo', lc', e1, _, hr⟩ | ⟨e1, _⟩
  · simp only [Value.slice.injEq, Option.some.injEq, Addr.mk.injEq, and_true, true_and] at e1
    obtain ⟨⟨rfl, rfl⟩, rfl⟩ := e1
    obtain ⟨r0, r1, _, _, _, _, _⟩ := hr b hb
    simp only [mW, mY, mZ]
    clear h8 hr h7 hg
    generalize fromA l a1 b = f at *
    generalize at_ l b = x at *
    generalize bgA l a1 = g at *
    generalize wS l b = w at *
    generalize wS l f = w2 at *
    generalize yS l b = y at *
    generalize yS l f = y2 at *
    generalize zS l b = z at *
    generalize zS l f = z2 at *
    have q1' : look F ⟨bb, bo + (a + 1).toNat * 1, none⟩ = some (.int .i64 (g : Int)) := by rw [ha]; exact q1
    refine C.go hT Try.func38 Try.ntmps38 ?_
    (repeat (first | refine st ?_ | refine nl ?_ | refine sq ?_ | refine rg ?_ | refine bl ?_ | refine sk ?_ | refine bk ?_ | refine bx ?_ | refine al ?_ | refine so ?_ | refine mk ?_ | refine ex ?_ | refine lb ?_ | refine cT ?_ | refine cF ?_ | refine sg ?_ | refine sp ?_ | refine su ?_))
    rw [hfi]
    refine dr 47 [6] [0, 1, 2, 3, 4, 5, 6, 7, 8, 9, 10, 11, 12, 13, 14, 15, 16, 17, 18, 19, 20, 21, 22, 23, 24, 25, 26, 27, 28, 29, 30, 31, 32, 33, 34, 35, 36, 37, 38, 39, 40, 41, 42, 43, 44, 45, 1046, 1047] ?_
    (repeat (first | refine dt ?_ | refine dg ?_ | refine dp ?_ | refine du ?_ | refine dq ?_ | refine dqg ?_ | refine dqp ?_ | refine dqu ?_ | refine dso ?_ | refine dal ?_ | refine dmk ?_ | refine dbx ?_ | refine dv ?_ | refine dpe ?_ | refine dn ?_ | refine st ?_ | refine nl ?_ | refine sq ?_ | refine rg ?_ | refine bl ?_ | refine sk ?_ | refine bk ?_ | refine bx ?_ | refine al ?_ | refine so ?_ | refine mk ?_ | refine ex ?_ | refine lb ?_ | refine cT ?_ | refine cF ?_ | refine sg ?_ | refine sp ?_ | refine su ?_))
    refine cD (fun hk => ?_) (fun hk => ?_)
    · refine dr 12 [6, 8] [0, 1, 2, 3, 4, 5, 6, 7, 8, 9, 10, 11, 1012] ?_
      (repeat (first | refine dt ?_ | refine dg ?_ | refine dp ?_ | refine du ?_ | refine dq ?_ | refine dqg ?_ | refine dqp ?_ | refine dqu ?_ | refine dso ?_ | refine dal ?_ | refine dmk ?_ | refine dbx ?_ | refine dv ?_ | refine dpe ?_ | refine dn ?_ | refine st ?_ | refine nl ?_ | refine sq ?_ | refine rg ?_ | refine bl ?_ | refine sk ?_ | refine bk ?_ | refine bx ?_ | refine al ?_ | refine so ?_ | refine mk ?_ | refine ex ?_ | refine lb ?_ | refine cT ?_ | refine cF ?_ | refine sg ?_ | refine sp ?_ | refine su ?_))
      exact rt ⟨by rw [if_pos hk], rfl⟩
    · (repeat (first | refine st ?_ | refine nl ?_ | refine sq ?_ | refine rg ?_ | refine bl ?_ | refine sk ?_ | refine bk ?_ | refine bx ?_ | refine al ?_ | refine so ?_ | refine mk ?_ | refine ex ?_ | refine lb ?_ | refine cT ?_ | refine cF ?_ | refine sg ?_ | refine sp ?_ | refine su ?_))
      exact rt ⟨by rw [if_neg hk, Int.add_zero], rfl⟩
  · simp at e1
end Go.Proofs.Ytnkddjdmpnghmaa.Am
namespace Go.Proofs.Ytnkddjdmpnghmaa.Am
set_option linter.unusedSimpArgs false
set_option linter.unusedVariables false
set_option maxRecDepth 100000
set_option maxHeartbeats 4000000
open Go Go.RowKit
theorem foA_step {l : List Item} {k : Nat} (h : k < l.length) : foA l k = if forceB (at_ l k) = true then k else foA l (k + 1) := by
  unfold foA
  rw [show l.length - k = (l.length - (k + 1)) + 1 from by omega]
  rfl
theorem bgA_step {l : List Item} {k : Nat} (h : k < l.length) : bgA l k = if forceB (at_ l k) = true then k else if (at_ l k).kind = 1 then k else bgA l (k + 1) := by
  unfold bgA
  rw [show l.length - k = (l.length - (k + 1)) + 1 from by omega]
  rfl
theorem foA_end (l : List Item) : foA l l.length = l.length := by simp [foA, foD]
theorem bgA_end (l : List Item) : bgA l l.length = l.length := by simp [bgA, bgD]
theorem ready_C (F : Mem) (v : Value) (l : List Item) (hv : RItems F v l) (hg : goodL l = true) : C Try.prog 37 [v] F (fun u Y => ∀ G, RItems G v l → Rd G Y → RPara G u l) := by
  have hlen := good_len hg
  rcases hv.cases with ⟨b, off, c, rfl, _, hr⟩ | ⟨rfl, rfl⟩
  ·
    refine C.go hT Try.func37 Try.ntmps37 ?_
    refine sq ?_
    refine rg ?_
    refine st (h := O) ?_
    refine nl ?_
    refine sq ?_
    refine rg ?_
    iterate 3 (refine st (h := O) ?_)
    refine nl ?_
    refine sq ?_
    refine dr 19 [] [0, 1, 2, 4, 5, 7, 8, 10, 11, 13, 14, 1614100704, 16, 1017, 18] ?_
    iterate 2 (refine dt (hv := by exact O) ?_)
    refine dt (hv := by exact sdA) ?_
    refine dt (hv := by exact O) ?_
    refine dt (hv := by exact sdA) ?_
    refine dt (hv := by exact O) ?_
    refine dt (hv := by exact sdA) ?_
    refine dt (hv := by exact O) ?_
    refine dt (hv := by exact sdA) ?_
    refine dt (hv := by exact O) ?_
    refine dt (hv := by exact sdA) ?_
    refine dmksI (ty := 23) (q := (l.length : Int) + 1) (ms := [3, 6, 9, 12, 15]) (l.length + 1) (fun m => m + 10) (L0 := [(0, .slice (some ⟨b, off, none⟩) l.length c), (3, .int .i64 l.length), (10, .slice (some ⟨b, off, none⟩) l.length c)]) ?_ ?_ ?_ ?_ ?_ ⟨rfl, rfl, rfl, trivial⟩ (by omega) (by omega) (by simp)
    rotate_left
    all_goals try (intro m hm; simp only [List.mem_cons, List.not_mem_nil, or_false] at hm)
    · rcases hm with rfl | rfl | rfl | rfl | rfl <;> exact ⟨_, _, _, rfl, rfl, rfl, rfl, rfl, rfl⟩
    · rcases hm with rfl | rfl | rfl | rfl | rfl <;> exact Nat.le_of_ble_eq_true rfl
    · rcases hm with rfl | rfl | rfl | rfl | rfl <;> rfl
    · rcases hm with rfl | rfl | rfl | rfl | rfl <;> rfl
    refine dt (hv := by exact O) ?_
    refine dbx (hkp := by first | exact Kept.all | exact Kept.k0 | exact Kept.kY | exact Kept.kYY | exact Kept.kY3) ?_
    refine dt (hv := by exact O) ?_
    refine dn ?_
    iterate 2 (refine sq ?_)
    refine rg ?_
    iterate 3 (refine st (h := O) ?_)
    refine nl ?_
    refine bl ?_
    refine J.loop4 (α := Nat) (β := Nat → Int) (γ := Nat → Int) (δ := Nat → Int) (fun k W Y Z => k ≤ l.length ∧ ∀ j, j ≤ k → W j = wS l j ∧ Y j = yS l j ∧ Z j = zS l j) (fun k W Y Z => [(30, .int .i64 k)]) [(0, _), (3, _), (4, _), (28, _), (29, _)] (fun k W Y Z => [(13, rI W (l.length + 1)), (16, rI Y (l.length + 1)), (19, rI Z (l.length + 1))]) [(27, _), (22, _), (25, _)] (fun k W Y Z => l.length - k) (0) (fun _ => 0) (fun _ => 0) (fun _ => 0) (by exact ⟨rfl, trivial⟩) (by exact ⟨rfl, rfl, rfl, rfl, rfl, trivial⟩) (by exact ⟨rfl, rfl, rfl, rfl, rfl, rfl, rfl, rfl, rfl, rfl, rfl, rfl, trivial⟩) ?_ ?_
    · exact ⟨Nat.zero_le _, fun j hj => by rw [Nat.le_zero.1 hj]; exact ⟨rfl, rfl, rfl⟩⟩
    ·intro k W Y Z L1 K1 e1 e2 hI
     dsimp only [apV, apR, List.cons_append, List.nil_append] at e1 e2
     subst e1 e2
     obtain ⟨hk, hW⟩ := hI
     refine sq ?_
     refine rg ?_
     refine st (h := O) ?_
     refine nl ?_
     refine sq ?_
     refine cD (fun c0 => ?_) (fun c0 => ?_)
     ·have hkl : k < l.length := by omega
      obtain ⟨r0, r1, r2, r3, r4, r5, g, hg2, hri⟩ := hr k hkl
      have hN : rdN F [] ⟨b, off + (k : Int).toNat * 11, none⟩ 11 = some ((at_ l k).cells g) := hg2
      have hok := good_ok hg hkl
      simp only [Item.ok, decide_eq_true_eq] at hok
      have hsb := sums_bd hg k (by omega)
      have e1 : (0 + ((k : Int) + 1).toNat * 1) = k + 1 := by omega
      have e2 : (0 + (k : Int).toNat * 1) = k := by omega
      rcases hri with (⟨gb, go, gc, rfl, _, _⟩ | ⟨rfl, _⟩) | ⟨gb, go, gsp, rfl, _⟩
      all_goals
        refine sk ?_
        refine sq ?_
        refine bl ?_
        refine sq ?_
        refine rg ?_
        refine st (h := O) ?_
        refine st (h := (sdX (z := 11))) ?_
        refine st (h := sdLN) ?_
        refine al ?_
        refine st (h := O) ?_
        refine so ?_
        refine nl ?_
        refine sq ?_
        refine J.cut3 (α := Nat → Int) (β := Nat → Int) (γ := Nat → Int) (fun W' Y' Z' => (W' (0 + ((k : Int) + 1).toNat * 1) = wS l k ∧ Y' (0 + ((k : Int) + 1).toNat * 1) = yS l k ∧ Z' (0 + ((k : Int) + 1).toNat * 1) = zS l k) ∧ ∀ j, j ≤ k → W' j = wS l j ∧ Y' j = yS l j ∧ Z' j = zS l j) (fun W' Y' Z' => []) [(0, _), (3, _), (4, _), (5, _), (6, _), (28, _), (29, _), (30, _)] (fun W' Y' Z' => [(13, rI W' (l.length + 1)), (16, rI Y' (l.length + 1)), (19, rI Z' (l.length + 1))]) [(6, _), (27, _), (22, _), (25, _)] (by exact ⟨rfl, rfl, rfl, rfl, rfl, rfl, rfl, rfl, trivial⟩) (by exact ⟨rfl, rfl, rfl, rfl, rfl, rfl, rfl, rfl, trivial⟩) ?_ ?_
        ·refine dr 40 [6, 13, 16, 19, 27, 22, 25] [0, 1, 2, 3, 4, 5, 2006, 2007, 2008, 9, 2010, 2011, 2012, 2013, 2014, 15, 2016, 2017, 18, 19, 20, 21, 22, 23, 24, 2025, 2026, 2027, 28, 2029, 2030, 31, 2032, 2033, 2034, 35, 2036, 2037, 38, 39, 1040, 2041, 1042, 2043, 1044] ?_
         iterate 2 (refine dt (hv := by exact O) ?_)
         refine dt (hv := by exact sdFA) ?_
         refine dt (hv := by exact sdL) ?_
         refine dt (hv := by exact O) ?_
         refine dt (hv := by exact sdA) ?_
         iterate 2 (refine dq (hv := by exact fun _ _ => O) ?_)
         refine dq (hv := by exact fun _ _ => sdFA) ?_
         refine dt (hv := by exact sdL) ?_
         refine dq (hv := by exact fun _ _ => O) ?_
         refine dq (hv := by exact fun _ _ => sdA) ?_
         iterate 2 (refine dq (hv := by exact fun _ _ => O) ?_)
         refine dq (hv := by exact fun _ _ => sdFA) ?_
         refine dt (hv := by exact sdL) ?_
         refine dq (hv := by exact fun _ _ => O) ?_
         refine dq (hv := by exact fun _ _ => sdA) ?_
         iterate 2 (refine dt (hv := by exact O) ?_)
         refine dt (hv := by exact sdFA) ?_
         refine dt (hv := by exact sdL) ?_
         refine dt (hv := by exact O) ?_
         refine dt (hv := by exact (sdX (z := 1))) ?_
         refine dt (hv := by exact (by first | exact sdLG | exact sdW)) ?_
         iterate 2 (refine dq (hv := by exact fun _ _ => O) ?_)
         refine dq (hv := by exact fun _ _ => sdFA) ?_
         refine dt (hv := by exact sdL) ?_
         refine dq (hv := by exact fun _ _ => O) ?_
         refine dq (hv := by exact fun _ _ => (sdX (z := 1))) ?_
         refine dt (hv := by exact (by first | exact sdLG | exact sdW)) ?_
         iterate 2 (refine dq (hv := by exact fun _ _ => O) ?_)
         refine dq (hv := by exact fun _ _ => sdFA) ?_
         refine dt (hv := by exact sdL) ?_
         refine dq (hv := by exact fun _ _ => O) ?_
         refine dq (hv := by exact fun _ _ => (sdX (z := 1))) ?_
         refine dt (hv := by exact (by first | exact sdLG | exact sdW)) ?_
         refine dt (hv := by exact (sdX (z := 1))) ?_
         first | refine dsoG ?_ | refine dso (hkp := by first | exact Kept.all | exact Kept.k0 | exact Kept.kY | exact Kept.kYY | exact Kept.kY3) ?_
         refine dq (hv := by exact fun _ _ => (sdX (z := 1))) ?_
         first | refine dsoG ?_ | refine dso (hkp := by first | exact Kept.all | exact Kept.k0 | exact Kept.kY | exact Kept.kYY | exact Kept.kY3) ?_
         refine dq (hv := by exact fun _ _ => (sdX (z := 1))) ?_
         first | refine dsoG ?_ | refine dso (hkp := by first | exact Kept.all | exact Kept.k0 | exact Kept.kY | exact Kept.kYY | exact Kept.kY3) ?_
         refine dn ?_
         refine ck3 (_) (_) (_) (by exact trivial) (by exact ⟨rfl, rfl, rfl, rfl, rfl, rfl, rfl, rfl, trivial⟩) (by exact ⟨rfl, rfl, rfl, rfl, rfl, rfl, rfl, rfl, rfl, rfl, rfl, rfl, rfl, rfl, trivial⟩) ?_
         obtain ⟨hW1, hW2, hW3⟩ := hW k (Nat.le_refl _)
         rw [e1, e2]
         refine ⟨⟨by simp [setI, hW1], by simp [setI, hW2], by simp [setI, hW3]⟩, fun j hj => ?_⟩
         have : j ≠ k + 1 := by omega
         simp [setI, this, hW j hj]
        ·intro W' Y' Z' L1 K1 e1 e2 hI
         dsimp only [List.cons_append, List.nil_append] at e1 e2
         subst e1 e2
         obtain ⟨⟨n1, n2, n3⟩, ho⟩ := hI
         iterate 2 (refine sq ?_)
         refine rg ?_
         refine st (h := sdFA) ?_
         refine st (h := sdL) ?_
         refine st (h := O) ?_
         refine nl ?_
         refine cN (fun c1 => ?_) (fun c1 => ?_)
         ·refine dr 12 [13, 16, 19, 6, 27, 22, 25] [0, 1, 2, 3, 4, 5, 6, 7, 8, 9, 10, 11, 1012] ?_
          iterate 2 (refine dt (hv := by exact O) ?_)
          refine dt (hv := by exact sdFA) ?_
          refine dt (hv := by exact sdL) ?_
          refine dt (hv := by exact O) ?_
          refine dt (hv := by exact sdA) ?_
          refine dt (hv := by exact (sdX (z := 1))) ?_
          refine dt (hv := by exact (by first | exact sdLG | exact sdW)) ?_
          refine dt (hv := by exact sdFA) ?_
          refine dt (hv := by exact sdL) ?_
          refine dt (hv := by exact sdA) ?_
          refine dt (hv := by exact (sdX (z := 1))) ?_
          first | refine dsoG ?_ | refine dso (hkp := by first | exact Kept.all | exact Kept.k0 | exact Kept.kY | exact Kept.kYY | exact Kept.kY3) ?_
          refine dn ?_
          refine sq ?_
          refine rg ?_
          refine st (h := sdFA) ?_
          refine st (h := sdL) ?_
          refine st (h := O) ?_
          refine nl ?_
          refine cD (fun c2 => ?_) (fun c2 => ?_)
          ·refine sq ?_
           refine dr 12 [13, 16, 19, 6, 27, 22, 25] [0, 1, 2, 3, 4, 5, 6, 7, 8, 9, 10, 11, 1012] ?_
           iterate 2 (refine dt (hv := by exact O) ?_)
           refine dt (hv := by exact sdFA) ?_
           refine dt (hv := by exact sdL) ?_
           refine dt (hv := by exact O) ?_
           refine dt (hv := by exact sdA) ?_
           refine dt (hv := by exact (sdX (z := 1))) ?_
           refine dt (hv := by exact (by first | exact sdLG | exact sdW)) ?_
           refine dt (hv := by exact sdFA) ?_
           refine dt (hv := by exact sdL) ?_
           refine dt (hv := by exact sdA) ?_
           refine dt (hv := by exact (sdX (z := 1))) ?_
           first | refine dsoG ?_ | refine dso (hkp := by first | exact Kept.all | exact Kept.k0 | exact Kept.kY | exact Kept.kYY | exact Kept.kY3) ?_
           refine dn ?_
           refine dr 12 [13, 16, 19, 6, 27, 22, 25] [0, 1, 2, 3, 4, 5, 6, 7, 8, 9, 10, 11, 1012] ?_
           iterate 2 (refine dt (hv := by exact O) ?_)
           refine dt (hv := by exact sdFA) ?_
           refine dt (hv := by exact sdL) ?_
           refine dt (hv := by exact O) ?_
           refine dt (hv := by exact sdA) ?_
           refine dt (hv := by exact (sdX (z := 1))) ?_
           refine dt (hv := by exact (by first | exact sdLG | exact sdW)) ?_
           refine dt (hv := by exact sdFA) ?_
           refine dt (hv := by exact sdL) ?_
           refine dt (hv := by exact sdA) ?_
           refine dt (hv := by exact (sdX (z := 1))) ?_
           first | refine dsoG ?_ | refine dso (hkp := by first | exact Kept.all | exact Kept.k0 | exact Kept.kY | exact Kept.kYY | exact Kept.kY3) ?_
           refine dn ?_
           refine bk ?_
           refine rg ?_
           refine st (h := sdA) ?_
           refine st (h := O) ?_
           refine nl ?_
           refine bk4 (k + 1) (_) (_) (_) (by exact ⟨rfl, trivial⟩) (by exact ⟨rfl, rfl, rfl, rfl, rfl, trivial⟩) (by exact ⟨rfl, rfl, rfl, rfl, rfl, rfl, rfl, rfl, rfl, rfl, rfl, rfl, trivial⟩) ?_ ?_
           · omega
           · refine ⟨by omega, fun j hj => ?_⟩
             simp only [e1] at *
             rcases Nat.lt_or_ge k j with h | h
             · obtain rfl : j = k + 1 := by omega
               first | (exfalso; omega) | simp [setI, wS, yS, zS, *]
             · have : j ≠ k + 1 := by omega
               simp [setI, this, ho j h]
          ·refine sk ?_
           refine bk ?_
           refine rg ?_
           refine st (h := sdA) ?_
           refine st (h := O) ?_
           refine nl ?_
           refine bk4 (k + 1) (_) (_) (_) (by exact ⟨rfl, trivial⟩) (by exact ⟨rfl, rfl, rfl, rfl, rfl, trivial⟩) (by exact ⟨rfl, rfl, rfl, rfl, rfl, rfl, rfl, rfl, rfl, rfl, rfl, rfl, trivial⟩) ?_ ?_
           · omega
           · refine ⟨by omega, fun j hj => ?_⟩
             simp only [e1] at *
             rcases Nat.lt_or_ge k j with h | h
             · obtain rfl : j = k + 1 := by omega
               first | (exfalso; omega) | simp [setI, wS, yS, zS, *]
             · have : j ≠ k + 1 := by omega
               simp [setI, this, ho j h]
         ·refine sk ?_
          refine sq ?_
          refine rg ?_
          refine st (h := sdFA) ?_
          refine st (h := sdL) ?_
          refine st (h := O) ?_
          refine nl ?_
          refine cD (fun c2 => ?_) (fun c2 => ?_)
          ·refine sq ?_
           refine dr 12 [13, 16, 19, 6, 27, 22, 25] [0, 1, 2, 3, 4, 5, 6, 7, 8, 9, 10, 11, 1012] ?_
           iterate 2 (refine dt (hv := by exact O) ?_)
           refine dt (hv := by exact sdFA) ?_
           refine dt (hv := by exact sdL) ?_
           refine dt (hv := by exact O) ?_
           refine dt (hv := by exact sdA) ?_
           refine dt (hv := by exact (sdX (z := 1))) ?_
           refine dt (hv := by exact (by first | exact sdLG | exact sdW)) ?_
           refine dt (hv := by exact sdFA) ?_
           refine dt (hv := by exact sdL) ?_
           refine dt (hv := by exact sdA) ?_
           refine dt (hv := by exact (sdX (z := 1))) ?_
           first | refine dsoG ?_ | refine dso (hkp := by first | exact Kept.all | exact Kept.k0 | exact Kept.kY | exact Kept.kYY | exact Kept.kY3) ?_
           refine dn ?_
           refine dr 12 [13, 16, 19, 6, 27, 22, 25] [0, 1, 2, 3, 4, 5, 6, 7, 8, 9, 10, 11, 1012] ?_
           iterate 2 (refine dt (hv := by exact O) ?_)
           refine dt (hv := by exact sdFA) ?_
           refine dt (hv := by exact sdL) ?_
           refine dt (hv := by exact O) ?_
           refine dt (hv := by exact sdA) ?_
           refine dt (hv := by exact (sdX (z := 1))) ?_
           refine dt (hv := by exact (by first | exact sdLG | exact sdW)) ?_
           refine dt (hv := by exact sdFA) ?_
           refine dt (hv := by exact sdL) ?_
           refine dt (hv := by exact sdA) ?_
           refine dt (hv := by exact (sdX (z := 1))) ?_
           first | refine dsoG ?_ | refine dso (hkp := by first | exact Kept.all | exact Kept.k0 | exact Kept.kY | exact Kept.kYY | exact Kept.kY3) ?_
           refine dn ?_
           refine bk ?_
           refine rg ?_
           refine st (h := sdA) ?_
           refine st (h := O) ?_
           refine nl ?_
           refine bk4 (k + 1) (_) (_) (_) (by exact ⟨rfl, trivial⟩) (by exact ⟨rfl, rfl, rfl, rfl, rfl, trivial⟩) (by exact ⟨rfl, rfl, rfl, rfl, rfl, rfl, rfl, rfl, rfl, rfl, rfl, rfl, trivial⟩) ?_ ?_
           · omega
           · refine ⟨by omega, fun j hj => ?_⟩
             simp only [e1] at *
             rcases Nat.lt_or_ge k j with h | h
             · obtain rfl : j = k + 1 := by omega
               first | (exfalso; omega) | simp [setI, wS, yS, zS, *]
             · have : j ≠ k + 1 := by omega
               simp [setI, this, ho j h]
          ·refine sk ?_
           refine bk ?_
           refine rg ?_
           refine st (h := sdA) ?_
           refine st (h := O) ?_
           refine nl ?_
           refine bk4 (k + 1) (_) (_) (_) (by exact ⟨rfl, trivial⟩) (by exact ⟨rfl, rfl, rfl, rfl, rfl, trivial⟩) (by exact ⟨rfl, rfl, rfl, rfl, rfl, rfl, rfl, rfl, rfl, rfl, rfl, rfl, trivial⟩) ?_ ?_
           · omega
           · refine ⟨by omega, fun j hj => ?_⟩
             simp only [e1] at *
             rcases Nat.lt_or_ge k j with h | h
             · obtain rfl : j = k + 1 := by omega
               first | (exfalso; omega) | simp [setI, wS, yS, zS, *]
             · have : j ≠ k + 1 := by omega
               simp [setI, this, ho j h]
     ·obtain rfl : k = l.length := by omega
      refine ex ?_
      refine sq ?_
      refine dr 13 [13, 16, 19, 27, 22, 25] [0, 1, 2, 3, 4, 2005, 2006, 2007, 8, 2009, 10, 2011, 12, 1013, 2014, 1015] ?_
      iterate 2 (refine dt (hv := by exact O) ?_)
      refine dt (hv := by exact sdFA) ?_
      refine dt (hv := by exact sdL) ?_
      refine dt (hv := by exact O) ?_
      iterate 2 (refine dq (hv := by exact fun _ _ => O) ?_)
      refine dq (hv := by exact fun _ _ => sdFA) ?_
      refine dt (hv := by exact sdL) ?_
      refine dq (hv := by exact fun _ _ => O) ?_
      refine dt (hv := by exact O) ?_
      refine dq (hv := by exact fun _ _ => O) ?_
      refine dt (hv := by exact (sdX (z := 1))) ?_
      first | refine dsoG ?_ | refine dso (hkp := by first | exact Kept.all | exact Kept.k0 | exact Kept.kY | exact Kept.kYY | exact Kept.kY3) ?_
      refine dq (hv := by exact fun _ _ => (sdX (z := 1))) ?_
      first | refine dsoG ?_ | refine dso (hkp := by first | exact Kept.all | exact Kept.k0 | exact Kept.kY | exact Kept.kYY | exact Kept.kY3) ?_
      refine dn ?_
      iterate 2 (refine sq ?_)
      refine rg ?_
      refine st (h := O) ?_
      refine st (h := sdS) ?_
      refine st (h := O) ?_
      refine nl ?_
      refine bl ?_
      refine J.loop3 (α := Int) (β := Nat → Int) (γ := Nat → Int) (fun i B Fo => -1 ≤ i ∧ i < l.length ∧ ∀ j : Nat, i < j → j ≤ l.length → B j = bgA l j ∧ Fo j = foA l j) (fun i B Fo => [(7, .int .i64 i)]) [(0, _), (4, _)] (fun i B Fo => [(22, rI B (l.length + 1)), (25, rI Fo (l.length + 1))]) [(13, _), (16, _), (19, _), (27, _)] (fun i B Fo => (i + 1).toNat) (_) (_) (_) (by exact ⟨rfl, trivial⟩) (by exact ⟨rfl, rfl, trivial⟩) (by exact ⟨rfl, rfl, rfl, rfl, rfl, rfl, rfl, rfl, rfl, rfl, rfl, rfl, trivial⟩) ?_ ?_
      · refine ⟨by omega, by omega, fun j hj hj2 => ?_⟩
        obtain rfl : j = l.length := by omega
        simp [setI, foA_end, bgA_end]
      ·intro i B Fo L1 K1 e1 e2 hI
       dsimp only [apV, apR, List.cons_append, List.nil_append] at e1 e2
       subst e1 e2
       obtain ⟨hi0, hil, hB⟩ := hI
       iterate 2 (refine sq ?_)
       refine rg ?_
       iterate 2 (refine st (h := O) ?_)
       refine nl ?_
       refine cD (fun c3 => ?_) (fun c3 => ?_)
       ·obtain ⟨k, rfl⟩ := Int.eq_ofNat_of_zero_le (show (0 : Int) ≤ i by omega)
        have hkl : k < l.length := by omega
        have e1 : (0 + ((k : Int) + 1).toNat * 1) = k + 1 := by omega
        have e2 : (0 + (k : Int).toNat * 1) = k := by omega
        obtain ⟨r0, r1, r2, r3, r4, r5, g, hg2, hri⟩ := hr k hkl
        have hN : rdN F [] ⟨b, off + (k : Int).toNat * 11, none⟩ 11 = some ((at_ l k).cells g) := hg2
        have hsv := hri.sl
        rcases hri with (⟨gb, go, gc, rfl, _, _⟩ | ⟨rfl, _⟩) | ⟨gb, go, gsp, rfl, _⟩
        all_goals
          refine sk ?_
          refine sq ?_
          refine bl ?_
          refine sq ?_
          refine J.cut2 (α := Nat → Int) (β := Nat → Int) (fun B' Fo' => (B' (0 + (k : Int).toNat * 1) = k ∧ Fo' (0 + (k : Int).toNat * 1) = foA l (k + 1)) ∧ ∀ j : Nat, k < j → j ≤ l.length → B' j = bgA l j ∧ Fo' j = foA l j) (fun B' Fo' => []) [(0, _), (4, _), (7, _)] (fun B' Fo' => [(22, rI B' (l.length + 1)), (25, rI Fo' (l.length + 1))]) [(13, _), (16, _), (19, _), (27, _)] (by exact ⟨rfl, rfl, rfl, trivial⟩) (by exact ⟨rfl, rfl, rfl, rfl, rfl, rfl, rfl, rfl, trivial⟩) ?_ ?_
          ·refine dr 20 [22, 25, 13, 16, 19, 27] [0, 1, 2, 3, 4, 2005, 2006, 2007, 8, 2009, 10, 2011, 2012, 2013, 14, 2015, 2016, 2017, 18, 19, 1020, 2021, 1022] ?_
           iterate 2 (refine dt (hv := by exact O) ?_)
           refine dt (hv := by exact sdFA) ?_
           refine dt (hv := by exact sdL) ?_
           refine dt (hv := by exact O) ?_
           iterate 2 (refine dq (hv := by exact fun _ _ => O) ?_)
           refine dq (hv := by exact fun _ _ => sdFA) ?_
           refine dt (hv := by exact sdL) ?_
           refine dq (hv := by exact fun _ _ => O) ?_
           refine dt (hv := by exact O) ?_
           iterate 2 (refine dq (hv := by exact fun _ _ => O) ?_)
           refine dq (hv := by exact fun _ _ => sdFA) ?_
           refine dt (hv := by exact sdL) ?_
           refine dq (hv := by exact fun _ _ => O) ?_
           refine dq (hv := by exact fun _ _ => sdA) ?_
           refine dq (hv := by exact fun _ _ => (sdX (z := 1))) ?_
           refine dt (hv := by exact (by first | exact sdLG | exact sdW)) ?_
           refine dt (hv := by exact (sdX (z := 1))) ?_
           first | refine dsoG ?_ | refine dso (hkp := by first | exact Kept.all | exact Kept.k0 | exact Kept.kY | exact Kept.kYY | exact Kept.kY3) ?_
           refine dq (hv := by exact fun _ _ => (sdX (z := 1))) ?_
           first | refine dsoG ?_ | refine dso (hkp := by first | exact Kept.all | exact Kept.k0 | exact Kept.kY | exact Kept.kYY | exact Kept.kY3) ?_
           refine dn ?_
           refine ck2 (_) (_) (by exact trivial) (by exact ⟨rfl, rfl, rfl, trivial⟩) (by exact ⟨rfl, rfl, rfl, rfl, rfl, rfl, rfl, rfl, rfl, rfl, rfl, rfl, trivial⟩) ?_
           obtain ⟨hW1, hW2⟩ := hB (k + 1) (by omega) (by omega)
           rw [e1, e2]
           refine ⟨⟨by simp [setI], by simp [setI, hW2]⟩, fun j hj hj2 => ?_⟩
           have : j ≠ k := by omega
           simp [setI, this, hB j (by omega) hj2]
          ·intro B' Fo' L1 K1 e1 e2 hI
           dsimp only [List.cons_append, List.nil_append] at e1 e2
           subst e1 e2
           obtain ⟨⟨n1, n2⟩, ho⟩ := hI
           refine sq ?_
           refine rg ?_
           iterate 2 (refine st (h := O) ?_)
           refine st (h := (sdX (z := 11))) ?_
           refine st (h := sdLN) ?_
           refine cl (h := by exact fun ι hV hl => force_C _ (at_ l k) _ hsv) ?_
           refine nl ?_
           refine cB (fun c4 => ?_) (fun c4 => ?_)
           ·refine rg ?_
            iterate 2 (refine st (h := O) ?_)
            refine st (h := sdFA) ?_
            refine st (h := sdL) ?_
            iterate 2 (refine st (h := O) ?_)
            refine st (h := (sdX (z := 1))) ?_
            first | refine soG ?_ | refine so ?_
            refine nl ?_
            refine bk ?_
            refine rg ?_
            refine st (h := O) ?_
            refine st (h := sdS) ?_
            refine st (h := O) ?_
            refine nl ?_
            refine bk3 (_) (_) (_) (by exact ⟨rfl, trivial⟩) (by exact ⟨rfl, rfl, trivial⟩) (by exact ⟨rfl, rfl, rfl, rfl, rfl, rfl, rfl, rfl, rfl, rfl, rfl, rfl, trivial⟩) ?_ ?_
            · omega
            · refine ⟨by omega, by omega, fun j hj hj2 => ?_⟩
              simp only [e1, e2] at *
              rcases Nat.lt_or_ge k j with h | h
              · have : j ≠ k := by omega
                simp [setI, this, ho j h hj2]
              · obtain rfl : j = k := by omega
                have h9 := ho (j + 1) (by omega) (by omega)
                simp [setI, foA_step hkl, bgA_step hkl, *]
           ·refine sq ?_
            refine rg ?_
            iterate 2 (refine st (h := O) ?_)
            refine st (h := (sdX (z := 11))) ?_
            refine st (h := sdFA) ?_
            refine st (h := (by first | exact sdLG | exact sdW)) ?_
            refine st (h := O) ?_
            refine nl ?_
            refine cN (fun c5 => ?_) (fun c5 => ?_)
            ·refine dr 14 [22, 25, 13, 16, 19, 27] [0, 1, 2, 3, 4, 5, 6, 7, 8, 9, 10, 11, 12, 13, 1014] ?_
             iterate 2 (refine dt (hv := by exact O) ?_)
             refine dt (hv := by exact sdFA) ?_
             refine dt (hv := by exact sdL) ?_
             iterate 3 (refine dt (hv := by exact O) ?_)
             refine dt (hv := by exact sdFA) ?_
             refine dt (hv := by exact sdL) ?_
             refine dt (hv := by exact O) ?_
             refine dt (hv := by exact sdA) ?_
             refine dt (hv := by exact (sdX (z := 1))) ?_
             refine dt (hv := by exact (by first | exact sdLG | exact sdW)) ?_
             refine dt (hv := by exact (sdX (z := 1))) ?_
             first | refine dsoG ?_ | refine dso (hkp := by first | exact Kept.all | exact Kept.k0 | exact Kept.kY | exact Kept.kYY | exact Kept.kY3) ?_
             refine dn ?_
             refine bk ?_
             refine rg ?_
             refine st (h := O) ?_
             refine st (h := sdS) ?_
             refine st (h := O) ?_
             refine nl ?_
             refine bk3 (_) (_) (_) (by exact ⟨rfl, trivial⟩) (by exact ⟨rfl, rfl, trivial⟩) (by exact ⟨rfl, rfl, rfl, rfl, rfl, rfl, rfl, rfl, rfl, rfl, rfl, rfl, trivial⟩) ?_ ?_
             · omega
             · refine ⟨by omega, by omega, fun j hj hj2 => ?_⟩
               simp only [e1, e2] at *
               rcases Nat.lt_or_ge k j with h | h
               · have : j ≠ k := by omega
                 simp [setI, this, ho j h hj2]
               · obtain rfl : j = k := by omega
                 have h9 := ho (j + 1) (by omega) (by omega)
                 simp [setI, foA_step hkl, bgA_step hkl, *]
            ·refine sk ?_
             refine bk ?_
             refine rg ?_
             refine st (h := O) ?_
             refine st (h := sdS) ?_
             refine st (h := O) ?_
             refine nl ?_
             refine bk3 (_) (_) (_) (by exact ⟨rfl, trivial⟩) (by exact ⟨rfl, rfl, trivial⟩) (by exact ⟨rfl, rfl, rfl, rfl, rfl, rfl, rfl, rfl, rfl, rfl, rfl, rfl, trivial⟩) ?_ ?_
             · omega
             · refine ⟨by omega, by omega, fun j hj hj2 => ?_⟩
               simp only [e1, e2] at *
               rcases Nat.lt_or_ge k j with h | h
               · have : j ≠ k := by omega
                 simp [setI, this, ho j h hj2]
               · obtain rfl : j = k := by omega
                 have h9 := ho (j + 1) (by omega) (by omega)
                 simp [setI, foA_step hkl, bgA_step hkl, *]
       ·obtain rfl : i = -1 := by omega
        refine ex ?_
        refine sq ?_
        refine rg ?_
        iterate 2 (refine st (h := O) ?_)
        refine nl ?_
        refine rtX fun ι hV G hG hY => ?_
        refine ⟨ι 27, 0, b, off, c, ι 13, 0, l.length + 1, ι 16, 0, l.length + 1, ι 19, 0, l.length + 1, ι 22, 0, l.length + 1, ι 25, 0, l.length + 1, rfl, ⟨?_, ?_, ?_, ?_, ?_, ?_⟩, hG, fun i hi => ?_⟩
        · exact hY (ι 27, Row.r ι _) (by repeat (first | exact List.mem_cons_self .. | apply List.mem_cons_of_mem)) 0 _ rfl
        · exact hY (ι 27, Row.r ι _) (by repeat (first | exact List.mem_cons_self .. | apply List.mem_cons_of_mem)) 1 _ rfl
        · exact hY (ι 27, Row.r ι _) (by repeat (first | exact List.mem_cons_self .. | apply List.mem_cons_of_mem)) 2 _ rfl
        · exact hY (ι 27, Row.r ι _) (by repeat (first | exact List.mem_cons_self .. | apply List.mem_cons_of_mem)) 3 _ rfl
        · exact hY (ι 27, Row.r ι _) (by repeat (first | exact List.mem_cons_self .. | apply List.mem_cons_of_mem)) 4 _ rfl
        · exact hY (ι 27, Row.r ι _) (by repeat (first | exact List.mem_cons_self .. | apply List.mem_cons_of_mem)) 5 _ rfl
        · obtain ⟨h1, h2, h3⟩ := hW i hi
          obtain ⟨h4, h5⟩ := hB i (by omega) hi
          simp only [Nat.zero_add, Nat.mul_one, ← h1, ← h2, ← h3, ← h4, ← h5]
          refine ⟨hY.gI (n := l.length + 1) (ι := ι) ?_ (by omega), hY.gI (n := l.length + 1) (ι := ι) ?_ (by omega), hY.gI (n := l.length + 1) (ι := ι) ?_ (by omega), hY.gI (n := l.length + 1) (ι := ι) ?_ (by omega), hY.gI (n := l.length + 1) (ι := ι) ?_ (by omega)⟩
          all_goals repeat (first | exact List.mem_cons_self .. | apply List.mem_cons_of_mem)
  · cases hg
end Go.Proofs.Ytnkddjdmpnghmaa.Am
namespace Go.Proofs.Ytnkddjdmpnghmaa.Am
set_option linter.unusedSimpArgs false
set_option linter.unusedVariables false
set_option maxRecDepth 100000
set_option maxHeartbeats 4000000
open Go Go.RowKit
def badD (y z : Int) : Int :=
  if min (max y 0) 1099511627776 = 0 then 0 else if min (max z 0) 1099511627776 = 0 then 10000
  else if 1290 < 297 * min (max y 0) 1099511627776 / min (max z 0) 1099511627776 then 10000
  else (297 * min (max y 0) 1099511627776 / min (max z 0) 1099511627776 * (297 * min (max y 0) 1099511627776 / min (max z 0) 1099511627776) * (297 * min (max y 0) 1099511627776 / min (max z 0) 1099511627776) + 131072) / 262144
theorem cube_bd {q : Int} (h0 : 0 ≤ q) (h1 : q ≤ 1290) : (0 ≤ q * q ∧ q * q ≤ 1664100) ∧ 0 ≤ q * q * q ∧ q * q * q ≤ 2146689000 := by
  have a : 0 ≤ q * q := Int.mul_nonneg h0 h0
  have b : q * q ≤ 1290 * 1290 := Int.mul_le_mul h1 h1 h0 (by omega)
  exact ⟨⟨a, by omega⟩, Int.mul_nonneg a h0, by have := Int.mul_le_mul b h1 h0 (by omega); omega⟩
theorem Bad_C (F : Mem) (y z : Int) : C0 Try.prog 68 [.int .i64 y, .int .i64 z] F (.int .i64 (badD y z)) := by
  refine C.go hT Try.func68 Try.ntmps68 ?_
  unfold badD
  have hy : 0 ≤ min (max y 0) 1099511627776 ∧ min (max y 0) 1099511627776 ≤ 1099511627776 := by omega
  have hz : 0 ≤ min (max z 0) 1099511627776 ∧ min (max z 0) 1099511627776 ≤ 1099511627776 := by omega
  (repeat (first | refine st ?_ | refine nl ?_ | refine sq ?_ | refine rg ?_ | refine bl ?_ | refine sk ?_ | refine bk ?_ | refine bx ?_ | refine al ?_ | refine so ?_ | refine mk ?_ | refine ex ?_ | refine lb ?_ | refine cT ?_ | refine cF ?_ | refine sg ?_ | refine sp ?_ | refine su ?_))
  generalize min (max y 0) 1099511627776 = y' at *
  generalize min (max z 0) 1099511627776 = z' at *
  refine cD (fun h0 => ?_) (fun h0 => ?_)
  · (repeat (first | refine st ?_ | refine nl ?_ | refine sq ?_ | refine rg ?_ | refine bl ?_ | refine sk ?_ | refine bk ?_ | refine bx ?_ | refine al ?_ | refine so ?_ | refine mk ?_ | refine ex ?_ | refine lb ?_ | refine cT ?_ | refine cF ?_ | refine sg ?_ | refine sp ?_ | refine su ?_))
    refine rt ⟨?_, rfl⟩
    rw [if_pos h0]
  · rw [if_neg h0]
    (repeat (first | refine st ?_ | refine nl ?_ | refine sq ?_ | refine rg ?_ | refine bl ?_ | refine sk ?_ | refine bk ?_ | refine bx ?_ | refine al ?_ | refine so ?_ | refine mk ?_ | refine ex ?_ | refine lb ?_ | refine cT ?_ | refine cF ?_ | refine sg ?_ | refine sp ?_ | refine su ?_))
    refine cD (fun h1 => ?_) (fun h1 => ?_)
    · (repeat (first | refine st ?_ | refine nl ?_ | refine sq ?_ | refine rg ?_ | refine bl ?_ | refine sk ?_ | refine bk ?_ | refine bx ?_ | refine al ?_ | refine so ?_ | refine mk ?_ | refine ex ?_ | refine lb ?_ | refine cT ?_ | refine cF ?_ | refine sg ?_ | refine sp ?_ | refine su ?_))
      refine rt ⟨?_, rfl⟩
      rw [if_pos h1]
    · rw [if_neg h1]
      have hq0 : 0 ≤ 297 * y' / z' := Int.ediv_nonneg (by omega) (by omega)
      (repeat (first | refine st ?_ | refine nl ?_ | refine sq ?_ | refine rg ?_ | refine bl ?_ | refine sk ?_ | refine bk ?_ | refine bx ?_ | refine al ?_ | refine so ?_ | refine mk ?_ | refine ex ?_ | refine lb ?_ | refine cT ?_ | refine cF ?_ | refine sg ?_ | refine sp ?_ | refine su ?_))
      generalize 297 * y' / z' = q at *
      refine cD (fun h2 => ?_) (fun h2 => ?_)
      · (repeat (first | refine st ?_ | refine nl ?_ | refine sq ?_ | refine rg ?_ | refine bl ?_ | refine sk ?_ | refine bk ?_ | refine bx ?_ | refine al ?_ | refine so ?_ | refine mk ?_ | refine ex ?_ | refine lb ?_ | refine cT ?_ | refine cF ?_ | refine sg ?_ | refine sp ?_ | refine su ?_))
        refine rt ⟨?_, rfl⟩
        rw [if_pos h2]
      · have := cube_bd hq0 (by omega)
        rw [if_neg h2]
        (repeat (first | refine st ?_ | refine nl ?_ | refine sq ?_ | refine rg ?_ | refine bl ?_ | refine sk ?_ | refine bk ?_ | refine bx ?_ | refine al ?_ | refine so ?_ | refine mk ?_ | refine ex ?_ | refine lb ?_ | refine cT ?_ | refine cF ?_ | refine sg ?_ | refine sp ?_ | refine su ?_ | refine st (h := SD.shrK rfl rfl (by omega)) ?_))
        refine rt ⟨?_, rfl⟩
        rw [Int.fdiv_eq_ediv_of_nonneg _ (by decide)]; rfl
def classD (y z : Int) (f : Bool) : Int := if badD y z ≤ 12 then 1 else if f = true then 0 else if badD y z ≤ 99 then 2 else 3
theorem Class_C (F : Mem) (y z : Int) (f : Bool) : C0 Try.prog 58 [.int .i64 y, .int .i64 z, .bool f] F (.int .i64 (classD y z f)) := by
  refine C.go hT Try.func58 Try.ntmps58 ?_
  (repeat' (first | refine st ?_ | refine nl ?_ | refine sq ?_ | refine rg ?_ | refine bl ?_ | refine sk ?_ | refine bk ?_ | refine bx ?_ | refine al ?_ | refine so ?_ | refine mk ?_ | refine ex ?_ | refine lb ?_ | refine cT ?_ | refine cF ?_ | refine sg ?_ | refine sp ?_ | refine su ?_ | refine gD (fun _ => ?_) (fun _ => ?_) | refine gN (fun _ => ?_) (fun _ => ?_) | refine cD (fun _ => ?_) (fun _ => ?_) | refine cN (fun _ => ?_) (fun _ => ?_) | refine cl ?_ (h := by exact fun _ _ _ => limits_C _) | refine cl ?_ (h := by exact fun _ _ _ => Bad_C _ _ _) | refine cB (fun _ => ?_) (fun _ => ?_)))
  all_goals (refine rt ⟨?_, rfl⟩; simp only [classD, *, if_true, if_false, Bool.false_eq_true])
def costA (l : List Item) (a : Int) : Int := if 0 ≤ a then costB (at_ l a.toNat) else 0
def flagA (l : List Item) (a : Int) : Bool := decide (0 ≤ a) && flagB (at_ l a.toNat)
theorem cost_C (F : Mem) (p : Value) (l : List Item) (a : Int) (hp : RPara F p l) (ha : a < l.length) : C0 Try.prog 69 [p, .int .i64 a] F (.tuple #[.int .i64 (costA l a), .bool (flagA l a)]) := by
  obtain ⟨pb, po, lb, lo, lc, wb, wo, wc, yb, yo, yc, zb, zo, zc, bb, bo, bc, fb, fo, fc, rfl, ⟨h1, h2, h3, h4, h5, h6⟩, h7, h8⟩ := hp
  clear h2 h3 h4 h5 h6 h8
  rcases h7.cases with ⟨lb', lo', lc', e1, _, hr⟩ | ⟨e1, _⟩
  · simp only [Value.slice.injEq, Option.some.injEq, Addr.mk.injEq, and_true, true_and] at e1
    obtain ⟨⟨rfl, rfl⟩, rfl⟩ := e1
    refine C.go hT Try.func69 Try.ntmps69 ?_
    (repeat (first | refine st ?_ | refine nl ?_ | refine sq ?_ | refine rg ?_ | refine bl ?_ | refine sk ?_ | refine bk ?_ | refine bx ?_ | refine al ?_ | refine so ?_ | refine mk ?_ | refine ex ?_ | refine lb ?_ | refine cT ?_ | refine cF ?_ | refine sg ?_ | refine sp ?_ | refine su ?_))
    refine gD (fun h0 => ?_) (fun h0 => ?_)
    · (repeat (first | refine st ?_ | refine nl ?_ | refine sq ?_ | refine rg ?_ | refine bl ?_ | refine sk ?_ | refine bk ?_ | refine bx ?_ | refine al ?_ | refine so ?_ | refine mk ?_ | refine ex ?_ | refine lb ?_ | refine cT ?_ | refine cF ?_ | refine sg ?_ | refine sp ?_ | refine su ?_))
      refine rt ⟨?_, rfl⟩
      have : ¬ 0 ≤ a := by omega
      simp [costA, flagA, this]
    · have h0' : 0 ≤ a := by omega
      obtain ⟨r0, r1, r2, r3, r4, r5, _⟩ := hr a.toNat (by omega)
      clear hr h7
      simp only [costA, flagA, if_pos h0', decide_eq_true h0', Bool.true_and, costB, flagB]
      generalize at_ l a.toNat = x at *
      (repeat (first | refine st ?_ | refine nl ?_ | refine sq ?_ | refine rg ?_ | refine bl ?_ | refine sk ?_ | refine bk ?_ | refine bx ?_ | refine al ?_ | refine so ?_ | refine mk ?_ | refine ex ?_ | refine lb ?_ | refine cT ?_ | refine cF ?_ | refine sg ?_ | refine sp ?_ | refine su ?_))
      refine cN (fun h3 => ?_) (fun h3 => ?_)
      · (repeat (first | refine st ?_ | refine nl ?_ | refine sq ?_ | refine rg ?_ | refine bl ?_ | refine sk ?_ | refine bk ?_ | refine bx ?_ | refine al ?_ | refine so ?_ | refine mk ?_ | refine ex ?_ | refine lb ?_ | refine cT ?_ | refine cF ?_ | refine sg ?_ | refine sp ?_ | refine su ?_))
        refine rt ⟨?_, rfl⟩
        simp [h3]
      · (repeat (first | refine st ?_ | refine nl ?_ | refine sq ?_ | refine rg ?_ | refine bl ?_ | refine sk ?_ | refine bk ?_ | refine bx ?_ | refine al ?_ | refine so ?_ | refine mk ?_ | refine ex ?_ | refine lb ?_ | refine cT ?_ | refine cF ?_ | refine sg ?_ | refine sp ?_ | refine su ?_))
        refine dr 18 [] [0, 1, 2, 3, 4, 5, 6, 7, 8, 9, 10, 11, 12, 13, 14, 15, 16, 17] ?_
        (repeat (first | refine dt ?_ | refine dg ?_ | refine dp ?_ | refine du ?_ | refine dq ?_ | refine dqg ?_ | refine dqp ?_ | refine dqu ?_ | refine dso ?_ | refine dal ?_ | refine dmk ?_ | refine dbx ?_ | refine dv ?_ | refine dpe ?_ | refine dn ?_ | refine st ?_ | refine nl ?_ | refine sq ?_ | refine rg ?_ | refine bl ?_ | refine sk ?_ | refine bk ?_ | refine bx ?_ | refine al ?_ | refine so ?_ | refine mk ?_ | refine ex ?_ | refine lb ?_ | refine cT ?_ | refine cF ?_ | refine sg ?_ | refine sp ?_ | refine su ?_))
        refine rt ⟨?_, rfl⟩
        simp [h3]
  · simp at e1
/-- what a line costs: its badness, its class, the class before it, where it begins and ends -/
def demD (l : List Item) (x : Par) (bad cls prev a b : Int) : Int := lineD x.line bad (costA l b) + moreD prev cls (flagA l a) (flagA l b) x
theorem lineD_bd (l b p : Int) : -100000000 ≤ lineD l b p ∧ lineD l b p ≤ 221000000 := by
  have h1 := sq_bd (x := min (max l 0) 1000 + min (max b 0) 10000) (n := 11000) (by omega) (by omega)
  have h2 := sq_bd (x := min (max p (-10000)) 10000) (n := 10000) (by omega) (by omega)
  unfold lineD
  (repeat' split) <;> omega
theorem moreD_bd (a b : Int) (f g : Bool) (x : Par) : 0 ≤ moreD a b f g x ∧ moreD a b f g x ≤ 2000000 := by
  unfold moreD
  (repeat' split) <;> omega
theorem demerits_C (F : Mem) (p : Value) (l : List Item) (w y z bad cls prev a b : Int) (fits : Bool) (x : Par) (hp : RPara F p l) (ha : a < l.length) (hb : b < l.length) : C0 Try.prog 57 [p, lineV w y z bad cls fits, .int .i64 prev, .int .i64 a, .int .i64 b, x.v] F (.int .i64 (demD l x bad cls prev a b)) := by
  have hl := lineD_bd x.line bad (costA l b)
  have hm := moreD_bd prev cls (flagA l a) (flagA l b) x
  unfold demD
  obtain ⟨pb, po, lb, lo, lc, wb, wo, wc, yb, yo, yc, zb, zo, zc, bb, bo, bc, fb, fo, fc, rfl, hp2⟩ := id hp
  clear hp2
  generalize hx : x = x' at *
  obtain ⟨xw, tol, line, twice, odd⟩ := x
  subst hx
  dsimp only [Par.v, lineV] at *
  refine C.go hT Try.func57 Try.ntmps57 ?_
  (repeat (first | refine st ?_ | refine nl ?_ | refine sq ?_ | refine rg ?_ | refine bl ?_ | refine sk ?_ | refine bk ?_ | refine bx ?_ | refine al ?_ | refine so ?_ | refine mk ?_ | refine ex ?_ | refine lb ?_ | refine cT ?_ | refine cF ?_ | refine sg ?_ | refine sp ?_ | refine su ?_ | refine cl ?_ (h := by exact fun _ _ hl => cost_C _ _ l _ (hp.le hl) (by assumption))))
  refine dr 15 [7, 11] [0, 1, 2, 3, 4, 6, 7, 8, 9, 10, 11, 1005, 1012, 13, 14] ?_
  (repeat (first | refine dt ?_ | refine dg ?_ | refine dp ?_ | refine du ?_ | refine dq ?_ | refine dqg ?_ | refine dqp ?_ | refine dqu ?_ | refine dso ?_ | refine dal ?_ | refine dmk ?_ | refine dbx ?_ | refine dv ?_ | refine dpe ?_ | refine dn ?_))
  refine dcl ?_ (h := by exact fun _ _ _ => Line_C _ _ _ _)
  (repeat (first | refine dt ?_ | refine dg ?_ | refine dp ?_ | refine du ?_ | refine dq ?_ | refine dqg ?_ | refine dqp ?_ | refine dqu ?_ | refine dso ?_ | refine dal ?_ | refine dmk ?_ | refine dbx ?_ | refine dv ?_ | refine dpe ?_ | refine dn ?_))
  refine dcl ?_ (h := by exact fun _ _ _ => More_C _ _ _ _ _ ⟨xw, tol, line, twice, odd⟩)
  (repeat (first | refine dt ?_ | refine dg ?_ | refine dp ?_ | refine du ?_ | refine dq ?_ | refine dqg ?_ | refine dqp ?_ | refine dqu ?_ | refine dso ?_ | refine dal ?_ | refine dmk ?_ | refine dbx ?_ | refine dv ?_ | refine dpe ?_ | refine dn ?_ | refine st ?_ | refine nl ?_ | refine sq ?_ | refine rg ?_ | refine bl ?_ | refine sk ?_ | refine bk ?_ | refine bx ?_ | refine al ?_ | refine so ?_ | refine mk ?_ | refine ex ?_ | refine lb ?_ | refine cT ?_ | refine cF ?_ | refine sg ?_ | refine sp ?_ | refine su ?_))
  exact rt ⟨rfl, rfl⟩
end Go.Proofs.Ytnkddjdmpnghmaa.Am
