/- Rules for walking Go functions with memory told by tags (B1). -/
import Derived.Test.YtbeblgjibfoanaaA22
import Derived.Test.YtbeblgjibfoanaaT0
import Derived.Scope
namespace Go.Proofs.Ytbeblgjibfoanaa.Am
set_option linter.unusedSimpArgs false
set_option linter.unusedVariables false
open Go Go.RowKit
/-! Rules for walks that are written by a program: each step's lemma is named. -/
def spB : Option Nat → Bool
  | none => true
  | some 0 => true
  | _ => false
theorem addA_sp {b o : Nat} {sp : Option Nat} (h : spB sp = true) {m : Nat} : addA ⟨b, o, sp⟩ m = ⟨b, o + m, sp⟩ := by
  rcases sp with _ | _ | s
  · rfl
  · rfl
  · cases h
section
variable {F : Mem} {K : Own} {L : Slots}
theorem O {o : Op} {v : Value} (h : dOp Θ (evO L) o = some v := by rfl) : SD Try.prog F K L o v := SD.of hT h
theorem sdA {t t' : TypeId} {x y : Operand} {a b : Int} (hx : evO L x = some (.int .i64 a) := by rfl) (hy : evO L y = some (.int .i64 b) := by rfl) (h0 : -9223372036854775808 ≤ a + b := by first | omega | (dsimp only; omega)) (h1 : a + b < 9223372036854775808 := by first | omega | (dsimp only; omega)) : SD Try.prog F K L (.binOp .add t x y t') (.int .i64 (a + b)) := SD.addI hx hy h0 h1
theorem sdS {t t' : TypeId} {x y : Operand} {a b : Int} (hx : evO L x = some (.int .i64 a) := by rfl) (hy : evO L y = some (.int .i64 b) := by rfl) (h0 : -9223372036854775808 ≤ a - b := by first | omega | (dsimp only; omega)) (h1 : a - b < 9223372036854775808 := by first | omega | (dsimp only; omega)) : SD Try.prog F K L (.binOp .sub t x y t') (.int .i64 (a - b)) := SD.subI hx hy h0 h1
theorem sdM {t t' : TypeId} {x y : Operand} {a b : Int} (hx : evO L x = some (.int .i64 a) := by rfl) (hy : evO L y = some (.int .i64 b) := by rfl) (h0 : -9223372036854775808 ≤ a * b := by first | omega | (dsimp only; omega)) (h1 : a * b < 9223372036854775808 := by first | omega | (dsimp only; omega)) : SD Try.prog F K L (.binOp .mul t x y t') (.int .i64 (a * b)) := SD.mulI hx hy h0 h1
theorem sdN {t : TypeId} {x : Operand} {a : Int} (hx : evO L x = some (.int .i64 a) := by rfl) (h0 : -9223372036854775808 ≤ -a := by first | omega | (dsimp only; omega)) (h1 : -a < 9223372036854775808 := by first | omega | (dsimp only; omega)) : SD Try.prog F K L (.unOp .neg t x) (.int .i64 (-a)) := SD.negI hx h0 h1
theorem sdQ {t t' : TypeId} {x y : Operand} {a b : Int} (hx : evO L x = some (.int .i64 a) := by rfl) (hy : evO L y = some (.int .i64 b) := by rfl) (h0 : 0 ≤ a := by first | omega | (dsimp only; omega)) (h1 : a < 9223372036854775808 := by first | omega | (dsimp only; omega)) (h2 : 0 < b := by first | omega | (dsimp only; omega)) : SD Try.prog F K L (.binOp .quo t x y t') (.int .i64 (a / b)) := SD.quoI hx hy h0 h1 h2
theorem sdR {t t' : TypeId} {x y : Operand} {a b : Int} (hx : evO L x = some (.int .i64 a) := by rfl) (hy : evO L y = some (.int .i64 b) := by rfl) (h0 : 0 ≤ a := by first | omega | (dsimp only; omega)) (h2 : 0 < b := by first | omega | (dsimp only; omega)) : SD Try.prog F K L (.binOp .rem t x y t') (.int .i64 (a % b)) := SD.remI hx hy h0 h2
theorem sdSl {t t' : TypeId} {x y : Operand} {k j : IntKind} {a b : Int} (hx : evO L x = some (.int k a) := by rfl) (hy : evO L y = some (.int j b) := by rfl) (hb : 0 ≤ b := by first | omega | (dsimp only; omega)) : SD Try.prog F K L (.binOp .shl t x y t') (.int k (k.wrap (a * 2 ^ (min b.toNat k.bits)))) := SD.shlK hx hy hb
theorem sdSr {t t' : TypeId} {x y : Operand} {k j : IntKind} {a b : Int} (hx : evO L x = some (.int k a) := by rfl) (hy : evO L y = some (.int j b) := by rfl) (hb : 0 ≤ b := by first | omega | (dsimp only; omega)) : SD Try.prog F K L (.binOp .shr t x y t') (.int k (a.fdiv (2 ^ (min b.toNat k.bits)))) := SD.shrK hx hy hb
theorem sdX {t el : TypeId} {x i : Operand} {b off n c z : Nat} {sp : Option Nat} {k : IntKind} {q : Int} {ti tj : Ty} (ht : Θ.lookup t = some ti := by rfl) (hk : ti.k = .slice el := by rfl) (hj : Θ.lookup el = some tj := by rfl) (hz : tj.size = z := by rfl) (hx : evO L x = some (.slice (some ⟨b, off, sp⟩) n c) := by rfl) (hi : evO L i = some (.int k q) := by rfl) (h0 : 0 ≤ q := by first | omega | (dsimp only; omega)) (h1 : q < n := by first | omega | (dsimp only; omega)) (hs : spB sp = true := by rfl) : SD Try.prog F K L (.indexAddr t x i) (.pointer (some ⟨b, off + q.toNat * z, sp⟩)) := by
  have h := SD.idxS (F := F) (K := K) hT ht hk hj hx hi h0 h1
  rw [addA_sp hs, hz] at h
  exact h
theorem sdXA {t el : TypeId} {x i : Operand} {b off n z : Nat} {sp : Option Nat} {k : IntKind} {q : Int} {ti tj : Ty} (ht : Θ.lookup t = some ti := by rfl) (hk : ti.k = .array n el := by rfl) (hj : Θ.lookup el = some tj := by rfl) (hz : tj.size = z := by rfl) (hx : evO L x = some (.pointer (some ⟨b, off, sp⟩)) := by rfl) (hi : evO L i = some (.int k q) := by rfl) (h0 : 0 ≤ q := by first | omega | (dsimp only; omega)) (h1 : q < n := by first | omega | (dsimp only; omega)) (hs : spB sp = true := by rfl) : SD Try.prog F K L (.indexAddr t x i) (.pointer (some ⟨b, off + q.toNat * z, sp⟩)) := by
  have h := SD.idxA (F := F) (K := K) hT ht hk hj hx hi h0 h1
  rw [addA_sp hs, hz] at h
  exact h
theorem sdFA {s f : Nat} {x : Operand} {b off o : Nat} {sp : Option Nat} {j : Ty} (hf : fldOf Θ s f = some (o, j) := by rfl) (hj : (j.size == 0) = false := by rfl) (hx : evO L x = some (.pointer (some ⟨b, off, sp⟩)) := by rfl) (hs : spB sp = true := by rfl) : SD Try.prog F K L (.fieldAddr s x f) (.pointer (some ⟨b, off + o, sp⟩)) := by
  refine SD.of hT ?_
  have : ¬ j.size = 0 := by simpa using hj
  simp only [dOp, hf, hx, this, if_false, addA_sp hs]
theorem sdXs {t : TypeId} {x i : Operand} {s : ByteArray} {k : IntKind} {q : Int} {ti : Ty} (ht : Θ.lookup t = some ti := by rfl) (hk : ti.k = .string := by rfl) (hx : evO L x = some (.string s) := by rfl) (hi : evO L i = some (.int k q) := by rfl) (h0 : 0 ≤ q := by first | omega | (dsimp only; omega)) (h1 : q < s.size := by first | omega | (dsimp only; omega)) : SD Try.prog F K L (.index t x i) (.int .u8 (byteAt s q.toNat)) := SD.idxStr hT ht hk hx hi h0 h1
theorem sdL {t : TypeId} {x : Operand} {a : Addr} {ti : Ty} {v : Value} (ht : Θ.lookup t = some ti := by rfl) (hag : aggB ti.k = false := by rfl) (hx : evO L x = some (.pointer (some a)) := by rfl) (hv : rdA F K a = some v := by first | rfl | assumption) : SD Try.prog F K L (.load t x) v := SD.load hT ht hag hx hv
theorem sdW {t : TypeId} {x : Operand} {a : Addr} {ti : Ty} {v : Value} (ht : Θ.lookup t = some ti := by rfl) (hag : aggB ti.k = false := by rfl) (hx : evO L x = some (.pointer (some a)) := by rfl) (hv : rdA F K a = some v := by assumption) : SD Try.prog F K L (.load t x) v := SD.load hT ht hag hx hv
theorem sdLN {t : TypeId} {x : Operand} {a : Addr} {ti : Ty} {cs : List Value} (ht : Θ.lookup t = some ti := by rfl) (hag : aggB ti.k = true := by rfl) (hx : evO L x = some (.pointer (some a)) := by rfl) (hv : rdN F K a ti.size = some cs := by first | rfl | assumption) : SD Try.prog F K L (.load t x) (.agg ⟨cs⟩) := SD.loadN hT ht hag hx hv
theorem sdLG {t : TypeId} {x : Operand} {ti : Ty} {b off n : Nat} {G : Nat → Int} {r : Row} (ht : Θ.lookup t = some ti := by rfl) (hag : aggB ti.k = false := by rfl) (hx : evO L x = some (.pointer (some ⟨b, off, some 0⟩)) := by rfl) (hr : K.lookup b = some r := by rfl) (hcs : r.cs = gI G n := by rfl) (hlt : off < n := by first | omega | (dsimp only; omega)) : SD Try.prog F K L (.load t x) (.int .i64 (G off)) := SD.loadG hT ht hag hx hr hcs hlt
end
theorem LSub.app {a b L : Slots} (ha : LSub a L) (hb : LSub b L) : LSub (a ++ b) L := by
  induction a with
  | nil => exact hb
  | cons x a ih => exact ⟨ha.1, ih ha.2⟩
/-- pieces behind which less may be told -/
def wk : List SI → Bool
  | .code _ :: _ => true
  | .blk _ :: s => wk s
  | _ => false
section
variable {X : Cx} {F F0 : Mem} {L : Slots} {K K0 : Own} {s : List SI} {ops : Array Oper} {o : Oper} {l : List Oper} {b : Nat} {D : List Nat} {p : List (Nat × Bool)} {listed : Array Bool}
theorem J.weakS : ∀ {s : List SI} {L0 : Slots} {K0 : Own}, wk s = true → LSub L0 L → KSub K0 K → J X s F L0 K0 → J X s F L K
  | .code _ :: _, _, _, _, hL, hK, h => WP.weak hL hK h
  | .blk _ :: s, _, _, hs, hL, hK, h => J.weakS (s := s) hs hL hK h
  | .back _ :: _, _, _, hs, _, _, _ => by simp [wk] at hs
  | [], _, _, hs, _, _, _ => by simp [wk] at hs
theorem J.dropF {c : Code} {Y : List (Nat × Row)} (h : J X (.code c :: s) F L K) : J X (.code c :: s) (F.add Y) L K := fun ι a w hF hS => h ι a w hF hS.drop
theorem JL.dropF {Y : List (Nat × Row)} (h : JL X ops l s F L K) : JL X ops l s (F.add Y) L K := fun ι a w hF hS => h ι a w hF hS.drop
theorem J.loop1 {c : Code} {α : Type} (ok : α → Prop) (Lf : α → Slots) (kp : Slots) (Kf : α → Own) (kk : Own) (μ : α → Nat) (x0 : α) (hL : LSub (Lf x0) L) (hk : LSub kp L) (hK : KSub (Kf x0 ++ kk) K) (h0 : ok x0)
    (round : ∀ x L1 K1, L1 = Lf x ++ kp → K1 = Kf x ++ kk → ok x → J X (.code c :: .back (fun F' L' K' => ∃ x', μ x' < μ x ∧ ok x' ∧ F' = F ∧ LSub (Lf x') L' ∧ LSub kp L' ∧ KSub (Kf x' ++ kk) K') :: s) F L1 K1) : J X (.code (.loop c) :: s) F L K :=
  J.loop (α := α) (fun p F' L' K' => ok p ∧ F' = F ∧ LSub (Lf p ++ kp) L' ∧ KSub (Kf p ++ kk) K') (fun p => μ p) (x0) ⟨h0, rfl, hL.app hk, hK⟩ (by
    rintro x F' L' K' ⟨h1, rfl, h2, h3⟩
    refine WP.weak h2 h3 ?_
    intro ι a w hF hS
    refine wp_mono (round x _ _ rfl rfl h1 ι a w hF hS) fun e a' w' hl => ?_
    obtain ⟨ι1, F1, L1, K1, g1, g2, g3, g4⟩ := hl
    refine ⟨ι1, F1, L1, K1, g1, g2, g3, ?_⟩
    cases e with
    | normal =>
      obtain ⟨x', q1, q2, q3, q4, q5, q6⟩ := g4
      exact ⟨x', q1, q2, q3, q4.app q5, q6⟩
    | _ => exact g4)
theorem bk1 {α : Type} {ok : α → Prop} {Lf : α → Slots} {kp : Slots} {Kf : α → Own} {kk : Own} {μ : α → Nat} {m : Nat} (x' : α) (hL : LSub (Lf x') L) (hk : LSub kp L) (hK : KSub (Kf x' ++ kk) K) (hμ : μ x' < m) (hok : ok x') :
    J X (.back (fun F' L' K' => ∃ x', μ x' < m ∧ ok x' ∧ F' = F ∧ LSub (Lf x') L' ∧ LSub kp L' ∧ KSub (Kf x' ++ kk) K') :: s) F L K := ⟨x', hμ, hok, rfl, hL, hk, hK⟩
theorem J.cut1 {c : Code} {α : Type} (ok : α → Prop) (Lf : α → Slots) (kp : Slots) (Kf : α → Own) (kk : Own) (hk0 : LSub kp L) (hK0 : KSub kk K)
    (h : J X (.code c :: .back (fun F' L' K' => ∃ x', ok x' ∧ F' = F ∧ LSub (Lf x') L' ∧ LSub kp L' ∧ KSub (Kf x' ++ kk) K') :: s) F L K)
    (hn : ∀ x L1 K1, L1 = Lf x ++ kp → K1 = Kf x ++ kk → ok x → J X s F L1 K1) (hs : wk s = true := by rfl) : J X (.code c :: s) F L K :=
  J.cut _ h (by
    rintro F' L' K' ⟨x', h1, rfl, h2, h3, h4⟩
    exact J.weakS hs (h2.app h3) h4 (hn x' _ _ rfl rfl h1))
theorem ck1 {α : Type} {ok : α → Prop} {Lf : α → Slots} {kp : Slots} {Kf : α → Own} {kk : Own} (x' : α) (hL : LSub (Lf x') L) (hk : LSub kp L) (hK : KSub (Kf x' ++ kk) K) (hok : ok x') :
    J X (.back (fun F' L' K' => ∃ x', ok x' ∧ F' = F ∧ LSub (Lf x') L' ∧ LSub kp L' ∧ KSub (Kf x' ++ kk) K') :: s) F L K := ⟨x', hok, rfl, hL, hk, hK⟩
theorem J.loop2 {c : Code} {α β : Type} (ok : α → β → Prop) (Lf : α → β → Slots) (kp : Slots) (Kf : α → β → Own) (kk : Own) (μ : α → β → Nat) (x0 : α) (y0 : β) (hL : LSub (Lf x0 y0) L) (hk : LSub kp L) (hK : KSub (Kf x0 y0 ++ kk) K) (h0 : ok x0 y0)
    (round : ∀ x y L1 K1, L1 = Lf x y ++ kp → K1 = Kf x y ++ kk → ok x y → J X (.code c :: .back (fun F' L' K' => ∃ x' y', μ x' y' < μ x y ∧ ok x' y' ∧ F' = F ∧ LSub (Lf x' y') L' ∧ LSub kp L' ∧ KSub (Kf x' y' ++ kk) K') :: s) F L1 K1) : J X (.code (.loop c) :: s) F L K :=
  J.loop (α := α × β) (fun p F' L' K' => ok p.1 p.2 ∧ F' = F ∧ LSub (Lf p.1 p.2 ++ kp) L' ∧ KSub (Kf p.1 p.2 ++ kk) K') (fun p => μ p.1 p.2) (x0, y0) ⟨h0, rfl, hL.app hk, hK⟩ (by
    rintro ⟨x, y⟩ F' L' K' ⟨h1, rfl, h2, h3⟩
    refine WP.weak h2 h3 ?_
    intro ι a w hF hS
    refine wp_mono (round x y _ _ rfl rfl h1 ι a w hF hS) fun e a' w' hl => ?_
    obtain ⟨ι1, F1, L1, K1, g1, g2, g3, g4⟩ := hl
    refine ⟨ι1, F1, L1, K1, g1, g2, g3, ?_⟩
    cases e with
    | normal =>
      obtain ⟨x', y', q1, q2, q3, q4, q5, q6⟩ := g4
      exact ⟨⟨x', y'⟩, q1, q2, q3, q4.app q5, q6⟩
    | _ => exact g4)
theorem bk2 {α β : Type} {ok : α → β → Prop} {Lf : α → β → Slots} {kp : Slots} {Kf : α → β → Own} {kk : Own} {μ : α → β → Nat} {m : Nat} (x' : α) (y' : β) (hL : LSub (Lf x' y') L) (hk : LSub kp L) (hK : KSub (Kf x' y' ++ kk) K) (hμ : μ x' y' < m) (hok : ok x' y') :
    J X (.back (fun F' L' K' => ∃ x' y', μ x' y' < m ∧ ok x' y' ∧ F' = F ∧ LSub (Lf x' y') L' ∧ LSub kp L' ∧ KSub (Kf x' y' ++ kk) K') :: s) F L K := ⟨x', y', hμ, hok, rfl, hL, hk, hK⟩
theorem J.cut2 {c : Code} {α β : Type} (ok : α → β → Prop) (Lf : α → β → Slots) (kp : Slots) (Kf : α → β → Own) (kk : Own) (hk0 : LSub kp L) (hK0 : KSub kk K)
    (h : J X (.code c :: .back (fun F' L' K' => ∃ x' y', ok x' y' ∧ F' = F ∧ LSub (Lf x' y') L' ∧ LSub kp L' ∧ KSub (Kf x' y' ++ kk) K') :: s) F L K)
    (hn : ∀ x y L1 K1, L1 = Lf x y ++ kp → K1 = Kf x y ++ kk → ok x y → J X s F L1 K1) (hs : wk s = true := by rfl) : J X (.code c :: s) F L K :=
  J.cut _ h (by
    rintro F' L' K' ⟨x', y', h1, rfl, h2, h3, h4⟩
    exact J.weakS hs (h2.app h3) h4 (hn x' y' _ _ rfl rfl h1))
theorem ck2 {α β : Type} {ok : α → β → Prop} {Lf : α → β → Slots} {kp : Slots} {Kf : α → β → Own} {kk : Own} (x' : α) (y' : β) (hL : LSub (Lf x' y') L) (hk : LSub kp L) (hK : KSub (Kf x' y' ++ kk) K) (hok : ok x' y') :
    J X (.back (fun F' L' K' => ∃ x' y', ok x' y' ∧ F' = F ∧ LSub (Lf x' y') L' ∧ LSub kp L' ∧ KSub (Kf x' y' ++ kk) K') :: s) F L K := ⟨x', y', hok, rfl, hL, hk, hK⟩
theorem J.loop3 {c : Code} {α β γ : Type} (ok : α → β → γ → Prop) (Lf : α → β → γ → Slots) (kp : Slots) (Kf : α → β → γ → Own) (kk : Own) (μ : α → β → γ → Nat) (x0 : α) (y0 : β) (z0 : γ) (hL : LSub (Lf x0 y0 z0) L) (hk : LSub kp L) (hK : KSub (Kf x0 y0 z0 ++ kk) K) (h0 : ok x0 y0 z0)
    (round : ∀ x y z L1 K1, L1 = Lf x y z ++ kp → K1 = Kf x y z ++ kk → ok x y z → J X (.code c :: .back (fun F' L' K' => ∃ x' y' z', μ x' y' z' < μ x y z ∧ ok x' y' z' ∧ F' = F ∧ LSub (Lf x' y' z') L' ∧ LSub kp L' ∧ KSub (Kf x' y' z' ++ kk) K') :: s) F L1 K1) : J X (.code (.loop c) :: s) F L K :=
  J.loop (α := α × β × γ) (fun p F' L' K' => ok p.1 p.2.1 p.2.2 ∧ F' = F ∧ LSub (Lf p.1 p.2.1 p.2.2 ++ kp) L' ∧ KSub (Kf p.1 p.2.1 p.2.2 ++ kk) K') (fun p => μ p.1 p.2.1 p.2.2) (x0, y0, z0) ⟨h0, rfl, hL.app hk, hK⟩ (by
    rintro ⟨x, y, z⟩ F' L' K' ⟨h1, rfl, h2, h3⟩
    refine WP.weak h2 h3 ?_
    intro ι a w hF hS
    refine wp_mono (round x y z _ _ rfl rfl h1 ι a w hF hS) fun e a' w' hl => ?_
    obtain ⟨ι1, F1, L1, K1, g1, g2, g3, g4⟩ := hl
    refine ⟨ι1, F1, L1, K1, g1, g2, g3, ?_⟩
    cases e with
    | normal =>
      obtain ⟨x', y', z', q1, q2, q3, q4, q5, q6⟩ := g4
      exact ⟨⟨x', y', z'⟩, q1, q2, q3, q4.app q5, q6⟩
    | _ => exact g4)
theorem bk3 {α β γ : Type} {ok : α → β → γ → Prop} {Lf : α → β → γ → Slots} {kp : Slots} {Kf : α → β → γ → Own} {kk : Own} {μ : α → β → γ → Nat} {m : Nat} (x' : α) (y' : β) (z' : γ) (hL : LSub (Lf x' y' z') L) (hk : LSub kp L) (hK : KSub (Kf x' y' z' ++ kk) K) (hμ : μ x' y' z' < m) (hok : ok x' y' z') :
    J X (.back (fun F' L' K' => ∃ x' y' z', μ x' y' z' < m ∧ ok x' y' z' ∧ F' = F ∧ LSub (Lf x' y' z') L' ∧ LSub kp L' ∧ KSub (Kf x' y' z' ++ kk) K') :: s) F L K := ⟨x', y', z', hμ, hok, rfl, hL, hk, hK⟩
theorem J.cut3 {c : Code} {α β γ : Type} (ok : α → β → γ → Prop) (Lf : α → β → γ → Slots) (kp : Slots) (Kf : α → β → γ → Own) (kk : Own) (hk0 : LSub kp L) (hK0 : KSub kk K)
    (h : J X (.code c :: .back (fun F' L' K' => ∃ x' y' z', ok x' y' z' ∧ F' = F ∧ LSub (Lf x' y' z') L' ∧ LSub kp L' ∧ KSub (Kf x' y' z' ++ kk) K') :: s) F L K)
    (hn : ∀ x y z L1 K1, L1 = Lf x y z ++ kp → K1 = Kf x y z ++ kk → ok x y z → J X s F L1 K1) (hs : wk s = true := by rfl) : J X (.code c :: s) F L K :=
  J.cut _ h (by
    rintro F' L' K' ⟨x', y', z', h1, rfl, h2, h3, h4⟩
    exact J.weakS hs (h2.app h3) h4 (hn x' y' z' _ _ rfl rfl h1))
theorem ck3 {α β γ : Type} {ok : α → β → γ → Prop} {Lf : α → β → γ → Slots} {kp : Slots} {Kf : α → β → γ → Own} {kk : Own} (x' : α) (y' : β) (z' : γ) (hL : LSub (Lf x' y' z') L) (hk : LSub kp L) (hK : KSub (Kf x' y' z' ++ kk) K) (hok : ok x' y' z') :
    J X (.back (fun F' L' K' => ∃ x' y' z', ok x' y' z' ∧ F' = F ∧ LSub (Lf x' y' z') L' ∧ LSub kp L' ∧ KSub (Kf x' y' z' ++ kk) K') :: s) F L K := ⟨x', y', z', hok, rfl, hL, hk, hK⟩
theorem J.loop4 {c : Code} {α β γ δ : Type} (ok : α → β → γ → δ → Prop) (Lf : α → β → γ → δ → Slots) (kp : Slots) (Kf : α → β → γ → δ → Own) (kk : Own) (μ : α → β → γ → δ → Nat) (x0 : α) (y0 : β) (z0 : γ) (u0 : δ) (hL : LSub (Lf x0 y0 z0 u0) L) (hk : LSub kp L) (hK : KSub (Kf x0 y0 z0 u0 ++ kk) K) (h0 : ok x0 y0 z0 u0)
    (round : ∀ x y z u L1 K1, L1 = Lf x y z u ++ kp → K1 = Kf x y z u ++ kk → ok x y z u → J X (.code c :: .back (fun F' L' K' => ∃ x' y' z' u', μ x' y' z' u' < μ x y z u ∧ ok x' y' z' u' ∧ F' = F ∧ LSub (Lf x' y' z' u') L' ∧ LSub kp L' ∧ KSub (Kf x' y' z' u' ++ kk) K') :: s) F L1 K1) : J X (.code (.loop c) :: s) F L K :=
  J.loop (α := α × β × γ × δ) (fun p F' L' K' => ok p.1 p.2.1 p.2.2.1 p.2.2.2 ∧ F' = F ∧ LSub (Lf p.1 p.2.1 p.2.2.1 p.2.2.2 ++ kp) L' ∧ KSub (Kf p.1 p.2.1 p.2.2.1 p.2.2.2 ++ kk) K') (fun p => μ p.1 p.2.1 p.2.2.1 p.2.2.2) (x0, y0, z0, u0) ⟨h0, rfl, hL.app hk, hK⟩ (by
    rintro ⟨x, y, z, u⟩ F' L' K' ⟨h1, rfl, h2, h3⟩
    refine WP.weak h2 h3 ?_
    intro ι a w hF hS
    refine wp_mono (round x y z u _ _ rfl rfl h1 ι a w hF hS) fun e a' w' hl => ?_
    obtain ⟨ι1, F1, L1, K1, g1, g2, g3, g4⟩ := hl
    refine ⟨ι1, F1, L1, K1, g1, g2, g3, ?_⟩
    cases e with
    | normal =>
      obtain ⟨x', y', z', u', q1, q2, q3, q4, q5, q6⟩ := g4
      exact ⟨⟨x', y', z', u'⟩, q1, q2, q3, q4.app q5, q6⟩
    | _ => exact g4)
theorem bk4 {α β γ δ : Type} {ok : α → β → γ → δ → Prop} {Lf : α → β → γ → δ → Slots} {kp : Slots} {Kf : α → β → γ → δ → Own} {kk : Own} {μ : α → β → γ → δ → Nat} {m : Nat} (x' : α) (y' : β) (z' : γ) (u' : δ) (hL : LSub (Lf x' y' z' u') L) (hk : LSub kp L) (hK : KSub (Kf x' y' z' u' ++ kk) K) (hμ : μ x' y' z' u' < m) (hok : ok x' y' z' u') :
    J X (.back (fun F' L' K' => ∃ x' y' z' u', μ x' y' z' u' < m ∧ ok x' y' z' u' ∧ F' = F ∧ LSub (Lf x' y' z' u') L' ∧ LSub kp L' ∧ KSub (Kf x' y' z' u' ++ kk) K') :: s) F L K := ⟨x', y', z', u', hμ, hok, rfl, hL, hk, hK⟩
theorem J.cut4 {c : Code} {α β γ δ : Type} (ok : α → β → γ → δ → Prop) (Lf : α → β → γ → δ → Slots) (kp : Slots) (Kf : α → β → γ → δ → Own) (kk : Own) (hk0 : LSub kp L) (hK0 : KSub kk K)
    (h : J X (.code c :: .back (fun F' L' K' => ∃ x' y' z' u', ok x' y' z' u' ∧ F' = F ∧ LSub (Lf x' y' z' u') L' ∧ LSub kp L' ∧ KSub (Kf x' y' z' u' ++ kk) K') :: s) F L K)
    (hn : ∀ x y z u L1 K1, L1 = Lf x y z u ++ kp → K1 = Kf x y z u ++ kk → ok x y z u → J X s F L1 K1) (hs : wk s = true := by rfl) : J X (.code c :: s) F L K :=
  J.cut _ h (by
    rintro F' L' K' ⟨x', y', z', u', h1, rfl, h2, h3, h4⟩
    exact J.weakS hs (h2.app h3) h4 (hn x' y' z' u' _ _ rfl rfl h1))
theorem ck4 {α β γ δ : Type} {ok : α → β → γ → δ → Prop} {Lf : α → β → γ → δ → Slots} {kp : Slots} {Kf : α → β → γ → δ → Own} {kk : Own} (x' : α) (y' : β) (z' : γ) (u' : δ) (hL : LSub (Lf x' y' z' u') L) (hk : LSub kp L) (hK : KSub (Kf x' y' z' u' ++ kk) K) (hok : ok x' y' z' u') :
    J X (.back (fun F' L' K' => ∃ x' y' z' u', ok x' y' z' u' ∧ F' = F ∧ LSub (Lf x' y' z' u') L' ∧ LSub kp L' ∧ KSub (Kf x' y' z' u' ++ kk) K') :: s) F L K := ⟨x', y', z', u', hok, rfl, hL, hk, hK⟩
theorem J.loop5 {c : Code} {α β γ δ ε : Type} (ok : α → β → γ → δ → ε → Prop) (Lf : α → β → γ → δ → ε → Slots) (kp : Slots) (Kf : α → β → γ → δ → ε → Own) (kk : Own) (μ : α → β → γ → δ → ε → Nat) (x0 : α) (y0 : β) (z0 : γ) (u0 : δ) (t0 : ε) (hL : LSub (Lf x0 y0 z0 u0 t0) L) (hk : LSub kp L) (hK : KSub (Kf x0 y0 z0 u0 t0 ++ kk) K) (h0 : ok x0 y0 z0 u0 t0)
    (round : ∀ x y z u t L1 K1, L1 = Lf x y z u t ++ kp → K1 = Kf x y z u t ++ kk → ok x y z u t → J X (.code c :: .back (fun F' L' K' => ∃ x' y' z' u' t', μ x' y' z' u' t' < μ x y z u t ∧ ok x' y' z' u' t' ∧ F' = F ∧ LSub (Lf x' y' z' u' t') L' ∧ LSub kp L' ∧ KSub (Kf x' y' z' u' t' ++ kk) K') :: s) F L1 K1) : J X (.code (.loop c) :: s) F L K :=
  J.loop (α := α × β × γ × δ × ε) (fun p F' L' K' => ok p.1 p.2.1 p.2.2.1 p.2.2.2.1 p.2.2.2.2 ∧ F' = F ∧ LSub (Lf p.1 p.2.1 p.2.2.1 p.2.2.2.1 p.2.2.2.2 ++ kp) L' ∧ KSub (Kf p.1 p.2.1 p.2.2.1 p.2.2.2.1 p.2.2.2.2 ++ kk) K') (fun p => μ p.1 p.2.1 p.2.2.1 p.2.2.2.1 p.2.2.2.2) (x0, y0, z0, u0, t0) ⟨h0, rfl, hL.app hk, hK⟩ (by
    rintro ⟨x, y, z, u, t⟩ F' L' K' ⟨h1, rfl, h2, h3⟩
    refine WP.weak h2 h3 ?_
    intro ι a w hF hS
    refine wp_mono (round x y z u t _ _ rfl rfl h1 ι a w hF hS) fun e a' w' hl => ?_
    obtain ⟨ι1, F1, L1, K1, g1, g2, g3, g4⟩ := hl
    refine ⟨ι1, F1, L1, K1, g1, g2, g3, ?_⟩
    cases e with
    | normal =>
      obtain ⟨x', y', z', u', t', q1, q2, q3, q4, q5, q6⟩ := g4
      exact ⟨⟨x', y', z', u', t'⟩, q1, q2, q3, q4.app q5, q6⟩
    | _ => exact g4)
theorem bk5 {α β γ δ ε : Type} {ok : α → β → γ → δ → ε → Prop} {Lf : α → β → γ → δ → ε → Slots} {kp : Slots} {Kf : α → β → γ → δ → ε → Own} {kk : Own} {μ : α → β → γ → δ → ε → Nat} {m : Nat} (x' : α) (y' : β) (z' : γ) (u' : δ) (t' : ε) (hL : LSub (Lf x' y' z' u' t') L) (hk : LSub kp L) (hK : KSub (Kf x' y' z' u' t' ++ kk) K) (hμ : μ x' y' z' u' t' < m) (hok : ok x' y' z' u' t') :
    J X (.back (fun F' L' K' => ∃ x' y' z' u' t', μ x' y' z' u' t' < m ∧ ok x' y' z' u' t' ∧ F' = F ∧ LSub (Lf x' y' z' u' t') L' ∧ LSub kp L' ∧ KSub (Kf x' y' z' u' t' ++ kk) K') :: s) F L K := ⟨x', y', z', u', t', hμ, hok, rfl, hL, hk, hK⟩
theorem J.cut5 {c : Code} {α β γ δ ε : Type} (ok : α → β → γ → δ → ε → Prop) (Lf : α → β → γ → δ → ε → Slots) (kp : Slots) (Kf : α → β → γ → δ → ε → Own) (kk : Own) (hk0 : LSub kp L) (hK0 : KSub kk K)
    (h : J X (.code c :: .back (fun F' L' K' => ∃ x' y' z' u' t', ok x' y' z' u' t' ∧ F' = F ∧ LSub (Lf x' y' z' u' t') L' ∧ LSub kp L' ∧ KSub (Kf x' y' z' u' t' ++ kk) K') :: s) F L K)
    (hn : ∀ x y z u t L1 K1, L1 = Lf x y z u t ++ kp → K1 = Kf x y z u t ++ kk → ok x y z u t → J X s F L1 K1) (hs : wk s = true := by rfl) : J X (.code c :: s) F L K :=
  J.cut _ h (by
    rintro F' L' K' ⟨x', y', z', u', t', h1, rfl, h2, h3, h4⟩
    exact J.weakS hs (h2.app h3) h4 (hn x' y' z' u' t' _ _ rfl rfl h1))
theorem ck5 {α β γ δ ε : Type} {ok : α → β → γ → δ → ε → Prop} {Lf : α → β → γ → δ → ε → Slots} {kp : Slots} {Kf : α → β → γ → δ → ε → Own} {kk : Own} (x' : α) (y' : β) (z' : γ) (u' : δ) (t' : ε) (hL : LSub (Lf x' y' z' u' t') L) (hk : LSub kp L) (hK : KSub (Kf x' y' z' u' t' ++ kk) K) (hok : ok x' y' z' u' t') :
    J X (.back (fun F' L' K' => ∃ x' y' z' u' t', ok x' y' z' u' t' ∧ F' = F ∧ LSub (Lf x' y' z' u' t') L' ∧ LSub kp L' ∧ KSub (Kf x' y' z' u' t' ++ kk) K') :: s) F L K := ⟨x', y', z', u', t', hok, rfl, hL, hk, hK⟩
/-! Calls of functions that leave rows. -/
theorem clC {f d : Nat} {args : Array Operand} {ts : Array TypeId} {vs : List Value} {Q : Value → List (Nat × Row) → Prop}
    (hk : ∀ v Y, Q v Y → (∀ κ, rV κ v = v) → (∀ x ∈ Y, ∀ u ∈ x.2.cs, plain1 u = true) → New F Y → JL X ops l s (F.add Y) ((d, v) :: L) K)
    (hg : o.guard = none := by rfl) (ho : o.op = .call ⟨.value (.func f), args, ts⟩ := by rfl) (hd : o.dst = some d := by rfl) (hN : d < X.N := by exact Nat.le_of_ble_eq_true rfl) (hargs : mapE (evO L) args.toList = some vs := by rfl) (hfn : fnOk X.P f = true := by kernel_rfl) (h : ∀ ι, Val ι K F → F.le (push ι K F) → C X.P f (vs.map (rV ι)) (push ι K F) Q) : JL X ops (o :: l) s F L K :=
  JL.callC hg ho hd hN hargs hfn h hk
theorem clgC {f d j e : Nat} {want : Bool} {args : Array Operand} {ts : Array TypeId} {vs : List Value} {Q : Value → List (Nat × Row) → Prop}
    (hk : ∀ v Y, Q v Y → (∀ κ, rV κ v = v) → (∀ x ∈ Y, ∀ u ∈ x.2.cs, plain1 u = true) → New F Y → JL X ops l s (F.add Y) ((d, v) :: L) K)
    (hg : o.guard = some (j, want) := by rfl) (hj : (ops[j]?).bind (·.dst) = some e := by rfl) (hb : L.lookup e = some (.bool want) := by rfl) (ho : o.op = .call ⟨.value (.func f), args, ts⟩ := by rfl) (hd : o.dst = some d := by rfl) (hN : d < X.N := by exact Nat.le_of_ble_eq_true rfl) (hargs : mapE (evO L) args.toList = some vs := by rfl) (hfn : fnOk X.P f = true := by kernel_rfl) (h : ∀ ι, Val ι K F → F.le (push ι K F) → C X.P f (vs.map (rV ι)) (push ι K F) Q) : JL X ops (o :: l) s F L K :=
  JL.callCG hg hj hb ho hd hN hargs hfn h hk
theorem dclC {i f d : Nat} {o : Oper} {args : Array Operand} {ts : Array TypeId} {vs : List Value} {Q : Value → List (Nat × Row) → Prop}
    (hk : ∀ v Y, Q v Y → (∀ κ, rV κ v = v) → (∀ x ∈ Y, ∀ u ∈ x.2.cs, plain1 u = true) → New F Y → JD X l b F0 K0 D p (listed.setIfInBounds i true) s (F.add Y) ((d, v) :: L) K)
    (hkp : Kept b F0 K0 (listed.setIfInBounds i true) F K := by first | exact Kept.same | exact Kept.all) (ho : l[i]? = some o := by rfl) (hg : o.guard = none := by rfl) (hop : o.op = .call ⟨.value (.func f), args, ts⟩ := by rfl) (hd : o.dst = some d := by rfl) (hN : d < X.N := by exact Nat.le_of_ble_eq_true rfl) (hargs : mapE (evO L) args.toList = some vs := by rfl) (hfn : fnOk X.P f = true := by kernel_rfl) (hi9 : i < 10000 := by exact Nat.le_of_ble_eq_true rfl) (h : ∀ ι, Val ι K F → F.le (push ι K F) → C X.P f (vs.map (rV ι)) (push ι K F) Q) : JD X l b F0 K0 D ((i, false) :: p) listed s F L K :=
  JD.callC_ hi9 ho (fun ι a _ => by simp [Region.wanted, hg]) hop hd hN hargs hfn hkp h hk
theorem Kept.k0 (h : KSub K0 K := by repeat' first | exact trivial | refine And.intro rfl ?_) : Kept b F K0 listed F K := .inr ⟨h, [], rfl⟩
theorem Kept.kY {Y : List (Nat × Row)} (h : KSub K0 K := by repeat' first | exact trivial | refine And.intro rfl ?_) : Kept b F K0 listed (F.add Y) K := .inr ⟨h, Y, rfl⟩
theorem Kept.addF {Y : List (Nat × Row)} (hn : (K0.map Prod.fst).Nodup := by first | exact List.nodup_nil | (simp; done)) : Kept b F0 K0 listed (F0.add Y) K0 := .inr ⟨KSub.refl hn, Y, rfl⟩
end
/-- rows that can be read -/
def Rd (G : Mem) (Y : List (Nat × Row)) : Prop := ∀ x ∈ Y, ∀ (o : Nat) (u : Value), x.2.cs[o]? = some u → look G ⟨x.1, o, none⟩ = some u
theorem Rd.gI {G : Mem} {Y : List (Nat × Row)} (h : Rd G Y) {b n i : Nat} {ι : Nat → Nat} {W : Nat → Int} (hm : (b, (rI W n).r ι) ∈ Y) (hi : i < n) : look G ⟨b, i, none⟩ = some (.int .i64 (W i)) := by
  refine h _ hm i _ ?_
  simp only [Row.r, rI, List.getElem?_map, gI_get hi, Option.map_some]
  rfl
section
variable {F : Mem} {L : Slots} {K : Own} {s : List SI}
/-- the end: all of the call's own rows are left -/
theorem outX.all {Q : Value → List (Nat × Row) → Prop} {v : Value} (h : ∀ ι, Val ι K F → Q (rV ι v) (K.map fun x => (ι x.1, x.2.r ι))) : outX F Q v F K :=
  ⟨[], rfl, fun x hx => by simp at hx, fun ι hv => ⟨K.map fun x => (ι x.1, x.2.r ι), fun x hx => by simpa using hx, by
    have := (List.nodup_append.1 hv.nodup).1
    simpa [List.map_map, Function.comp_def] using this, h ι hv⟩⟩
theorem rtX {Θ : Tab} {rs : List ResultVar} {Q : Value → List (Nat × Row) → Prop} {v : Value} {P : Program} {N : Nat} {D : List Nat} (h : ∀ ι, Val ι K F → Q (rV ι v) (K.map fun x => (ι x.1, x.2.r ι))) (hr : resV Θ F L K rs = some v := by rfl) : J ⟨P, N, D, retR Θ rs (outX F Q)⟩ (.code .ret :: s) F L K := J.ret ⟨v, hr, outX.all h⟩
theorem reX {Θ : Tab} {rs : List ResultVar} {Q : Value → List (Nat × Row) → Prop} {v : Value} {P : Program} {N : Nat} {D : List Nat} (h : ∀ ι, Val ι K F → Q (rV ι v) (K.map fun x => (ι x.1, x.2.r ι))) (hr : resV Θ F L K rs = some v := by rfl) : J ⟨P, N, D, retR Θ rs (outX F Q)⟩ [] F L K := ⟨v, hr, outX.all h⟩
end
theorem sem_goto {X : Cx} (h : ∀ c F L K, ¬ X.R (.goto c) F L K) {c : Nat} {F : Mem} {L : Slots} {K : Own} : ∀ {s : List SI}, ¬ sem X s (.goto c) F L K
  | [] => h c F L K
  | .code _ :: s => sem_goto h (s := s)
  | .blk _ :: s => sem_goto h (s := s)
  | .back _ :: s => sem_goto h (s := s)
/-- a scope of labels that nothing jumps to -/
theorem sc {X : Cx} {F : Mem} {L : Slots} {K : Own} {s : List SI} {c : Code} (h : J X (.code c :: s) F L K) (hR : ∀ c F L K, ¬ X.R (.goto c) F L K := by intro _ _ _ _ h; exact h) : J X (.code (.scope c) :: s) F L K := by
  intro ι a w hF hS
  refine wp_scope_straight (wp_mono (h ι a w hF hS) fun e a' w' hl => ?_)
  cases e with
  | goto l =>
    obtain ⟨ι1, F1, L1, K1, h1, h2, h3, h4⟩ := hl
    exact absurd h4 (sem_goto hR)
  | _ => exact hl
end Go.Proofs.Ytbeblgjibfoanaa.Am
