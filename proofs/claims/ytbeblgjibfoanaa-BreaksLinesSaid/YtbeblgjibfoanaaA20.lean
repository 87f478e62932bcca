/- Rules for walking Go functions with memory told by tags (A20). -/
import Derived.Test.YtbeblgjibfoanaaA19
namespace Go.Proofs.Ytbeblgjibfoanaa.Am
set_option linter.unusedSimpArgs false
set_option linter.unusedVariables false
open Go Go.RowKit
/-! One step of the walk: arguments that find themselves. -/
section
variable {X : Cx} {F F0 : Mem} {L : Slots} {K K0 : Own} {s : List SI} {ops : Array Oper} {o : Oper} {l : List Oper}
theorem st {v : Value} {d : Nat} (hk : JL X ops l s F ((d, v) :: L) K)
    (hg : o.guard = none := by rfl) (hd : o.dst = some d := by rfl) (hN : d < X.N := by exact Nat.le_of_ble_eq_true rfl)
    (h : SD X.P F K L o.op v := by first
      | exact SD.addI rfl rfl (by omega) (by omega)
      | exact SD.subI rfl rfl (by omega) (by omega)
      | exact SD.mulI rfl rfl (by omega) (by omega)
      | exact SD.negI rfl (by omega) (by omega)
      | exact SD.idxS hT rfl rfl rfl rfl rfl (by omega) (by omega)
      | exact SD.idxA hT rfl rfl rfl rfl rfl (by omega) (by omega)
      | exact SD.load hT rfl rfl rfl (by first | rfl | assumption)
      | exact SD.loadN hT rfl rfl rfl (by first | rfl | assumption)
      | exact SD.quoI rfl rfl (by omega) (by omega) (by omega)
      | exact SD.remI rfl rfl (by omega) (by omega)
      | exact SD.of hT rfl) : JL X ops (o :: l) s F L K :=
  JL.step hg (Go1.val hd hN h hk)
theorem sg {v : Value} {d j e : Nat} {want : Bool} (hk : JL X ops l s F ((d, v) :: L) K)
    (hg : o.guard = some (j, want) := by rfl) (hj : (ops[j]?).bind (·.dst) = some e := by rfl) (hb : L.lookup e = some (.bool want) := by rfl) (hd : o.dst = some d := by rfl) (hN : d < X.N := by exact Nat.le_of_ble_eq_true rfl)
    (h : SD X.P F K L o.op v := by first
      | exact SD.addI rfl rfl (by omega) (by omega)
      | exact SD.subI rfl rfl (by omega) (by omega)
      | exact SD.mulI rfl rfl (by omega) (by omega)
      | exact SD.negI rfl (by omega) (by omega)
      | exact SD.idxS hT rfl rfl rfl rfl rfl (by omega) (by omega)
      | exact SD.idxA hT rfl rfl rfl rfl rfl (by omega) (by omega)
      | exact SD.load hT rfl rfl rfl (by first | rfl | assumption)
      | exact SD.loadN hT rfl rfl rfl (by first | rfl | assumption)
      | exact SD.quoI rfl rfl (by omega) (by omega) (by omega)
      | exact SD.remI rfl rfl (by omega) (by omega)
      | exact SD.of hT rfl) : JL X ops (o :: l) s F L K :=
  JL.stepG hg hj hb (Go1.val hd hN h hk)
theorem sp {d j e : Nat} {want b : Bool} (hk : JL X ops l s F ((d, undef) :: L) K)
    (hg : o.guard = some (j, want) := by rfl) (hj : (ops[j]?).bind (·.dst) = some e := by rfl) (hb : L.lookup e = some (.bool b) := by rfl) (hne : (b == want) = false := by rfl) (hd : o.dst = some d := by rfl) (hN : d < X.N := by exact Nat.le_of_ble_eq_true rfl) : JL X ops (o :: l) s F L K :=
  JL.pass hg hj hb hne hd hN hk
theorem su {d j e : Nat} {want : Bool} (hk : JL X ops l s F ((d, undef) :: L) K)
    (hg : o.guard = some (j, want) := by rfl) (hj : (ops[j]?).bind (·.dst) = some e := by rfl) (hb : L.lookup e = some undef := by rfl) (hd : o.dst = some d := by rfl) (hN : d < X.N := by exact Nat.le_of_ble_eq_true rfl) : JL X ops (o :: l) s F L K :=
  JL.passU hg hj hb hd hN hk
theorem bx {e : TypeId} {x : Operand} {d : Nat} {v : Value} (hk : JL X ops l s F ((d, .pointer (some ⟨d, 0, some 0⟩)) :: L) ((d, { elem := e, cs := cellsL v, room := (cellsL v).length, flat := false }) :: K))
    (hg : o.guard = none := by rfl) (ho : o.op = .box e x := by rfl) (hd : o.dst = some d := by rfl) (hN : d < X.N := by exact Nat.le_of_ble_eq_true rfl) (hx : evO L x = some v := by rfl) (hv : okV v = true := by rfl)
    (hL : ntL d L = true := by rfl) (hK : ntK d K = true := by rfl) (hD : X.D.contains d = false := by rfl) : JL X ops (o :: l) s F L K := JL.step hg (Go1.box ho hd hN hx hv hL hK hD hk)
theorem al {Θ : Tab} {e : TypeId} {d : Nat} {i : Ty} (hk : JL X ops l s F ((d, .pointer (some ⟨d, 0, some 0⟩)) :: L) ((d, { elem := e, cs := i.zero, room := i.zero.length, flat := false }) :: K))
    (hg : o.guard = none := by rfl) (ho : o.op = .alloc e := by rfl) (hd : o.dst = some d := by rfl) (hN : d < X.N := by exact Nat.le_of_ble_eq_true rfl) (hθ : tabOk X.P Θ = true := by exact hT) (hi : Θ.lookup e = some i := by rfl) (h1 : i.zero.all (·.oneCell') = true := by rfl)
    (hL : ntL d L = true := by rfl) (hK : ntK d K = true := by rfl) (hD : X.D.contains d = false := by rfl) : JL X ops (o :: l) s F L K := JL.step hg (Go1.alloc hθ ho hd hN hi h1 hL hK hD hk)
theorem so {Θ : Tab} {ty : TypeId} {x y : Operand} {t off : Nat} {v : Value} {r : Row} {ti : Ty} (hk : JL X ops l s F L (setK t { r with cs := putL r.cs off (cellsL v), flat := r.flat && (cellsL v).all plain1 } K))
    (hg : o.guard = none := by rfl) (ho : o.op = .store ty x y := by rfl) (hd : o.dst = none := by rfl) (hθ : tabOk X.P Θ = true := by exact hT) (hi : Θ.lookup ty = some ti := by rfl)
    (hx : evO L x = some (.pointer (some ⟨t, off, some 0⟩)) := by rfl) (hy : evO L y = some v := by rfl) (hv : okV v = true := by rfl) (hr : K.lookup t = some r := by rfl) (hsz : (cellsL v).length = ti.size := by rfl) (hle : off + (cellsL v).length ≤ r.cs.length := by first | exact Nat.le_of_ble_eq_true rfl | (simp; omega)) : JL X ops (o :: l) s F L K :=
  JL.step hg (Go1.store hθ ho hd hi hx hy hv hr hsz hle hk)
theorem nl (h : J X s F L K) : JL X ops [] s F L K := JL.nil h
theorem sq {x y : Code} (h : J X (.code x :: .code y :: s) F L K) : J X (.code (.seq x y) :: s) F L K := J.seq h
theorem rg {id : Nat} {l : List Oper} (h : JL X l.toArray l s F L K) : J X (.code (.region id l.toArray false) :: s) F L K := J.reg h
theorem bl {id : Nat} {c : Code} (h : J X (.code c :: .blk id :: s) F L K) : J X (.code (.block id c) :: s) F L K := J.block h
theorem sk (h : J X s F L K) : J X (.code .skip :: s) F L K := J.skip h
theorem bk {id : Nat} (h : J X s F L K) : J X (.blk id :: s) F L K := h
theorem lb {n : Nat} (h : J X s F L K) : J X (.code (.label n) :: s) F L K := J.label h
theorem ex {id : Nat} (h : J X (exitS id s) F L K) (hb : hasB id s = true := by rfl) : J X (.code (.exit id) :: s) F L K := J.exit hb h
theorem cT {c : Operand} {x y : Code} (h : J X (.code x :: s) F L K) (hc : evO L c = some (.bool true) := by rfl) : J X (.code (.cond c x y) :: s) F L K := J.condT hc h
theorem cF {c : Operand} {x y : Code} (h : J X (.code y :: s) F L K) (hc : evO L c = some (.bool false) := by rfl) : J X (.code (.cond c x y) :: s) F L K := J.condF hc h
/-- which of a region that draws come next -/
def pm (p : List Nat) : List (Nat × Bool) := p.map fun i => if i < 1000 then (i, true) else if i < 2000 then (i - 1000, false) else if i < 10000 then (i, true) else (i, false)
variable {b : Nat} {D : List Nat} {p : List (Nat × Bool)} {listed : Array Bool}
theorem dr {id : Nat} {l : List Oper} (b : Nat) (D : List Nat) (p : List Nat) (h : JD X l b F K D (pm p) (Array.replicate l.length false) s F L K) (hm : X.P.follows .mixedOrders = true := by kernel_rfl) (hlen : pl (pm p) = l.length := by kernel_rfl) (hp : planOk l b (Array.replicate l.length false) (pm p) = true := by kernel_rfl)
    (nop : ∀ c F L K, ¬ X.R (.panic c) F L K := by intro _ _ _ _ h; exact h) (sel : Region.noSelect l.toArray = true := by kernel_rfl) (sub : (X.D.all fun t => D.contains t) = true := by rfl) (tgk : tgK D K = true := by rfl) : J X (.code (.region id l.toArray true) :: s) F L K :=
  J.draw b D (pm p) hm hlen hp ⟨nop, sel, sub, tgk⟩ h
theorem dt {i d : Nat} {o : Oper} {v : Value} (h : JD X l b F0 K0 D p (listed.setIfInBounds i true) s F ((d, v) :: L) K) (ho : l[i]? = some o := by rfl) (hg : o.guard = none := by rfl) (hd : o.dst = some d := by rfl) (hN : d < X.N := by exact Nat.le_of_ble_eq_true rfl)
    (hv : SD X.P F0 K0 L o.op v := by first
      | exact SD.addI rfl rfl (by omega) (by omega)
      | exact SD.subI rfl rfl (by omega) (by omega)
      | exact SD.mulI rfl rfl (by omega) (by omega)
      | exact SD.negI rfl (by omega) (by omega)
      | exact SD.idxS hT rfl rfl rfl rfl rfl (by omega) (by omega)
      | exact SD.idxA hT rfl rfl rfl rfl rfl (by omega) (by omega)
      | exact SD.load hT rfl rfl rfl (by first | rfl | assumption)
      | exact SD.loadN hT rfl rfl rfl (by first | rfl | assumption)
      | exact SD.quoI rfl rfl (by omega) (by omega) (by omega)
      | exact SD.remI rfl rfl (by omega) (by omega)
      | exact SD.of hT rfl) (hi2 : i < 2000 := by exact Nat.le_of_ble_eq_true rfl) : JD X l b F0 K0 D ((i, true) :: p) listed s F L K := JD.take hi2 ho hg hd hN hv h
theorem dg {i d j e : Nat} {want : Bool} {o : Oper} {v : Value} (h : JD X l b F0 K0 D p (listed.setIfInBounds i true) s F ((d, v) :: L) K) (ho : l[i]? = some o := by rfl) (hg : o.guard = some (j, want) := by rfl) (hj : (l[j]?).bind (·.dst) = some e := by rfl) (hb : L.lookup e = some (.bool want) := by rfl) (hd : o.dst = some d := by rfl) (hN : d < X.N := by exact Nat.le_of_ble_eq_true rfl)
    (hv : SD X.P F0 K0 L o.op v := by first
      | exact SD.addI rfl rfl (by omega) (by omega)
      | exact SD.subI rfl rfl (by omega) (by omega)
      | exact SD.mulI rfl rfl (by omega) (by omega)
      | exact SD.negI rfl (by omega) (by omega)
      | exact SD.idxS hT rfl rfl rfl rfl rfl (by omega) (by omega)
      | exact SD.idxA hT rfl rfl rfl rfl rfl (by omega) (by omega)
      | exact SD.load hT rfl rfl rfl (by first | rfl | assumption)
      | exact SD.loadN hT rfl rfl rfl (by first | rfl | assumption)
      | exact SD.quoI rfl rfl (by omega) (by omega) (by omega)
      | exact SD.remI rfl rfl (by omega) (by omega)
      | exact SD.of hT rfl) (hi2 : i < 2000 := by exact Nat.le_of_ble_eq_true rfl) : JD X l b F0 K0 D ((i, true) :: p) listed s F L K := JD.takeG hi2 ho hg hj hb hd hN hv h
theorem dp {i d j e : Nat} {want q : Bool} {o : Oper} (h : JD X l b F0 K0 D p (listed.setIfInBounds i true) s F ((d, undef) :: L) K) (ho : l[i]? = some o := by rfl) (hg : o.guard = some (j, want) := by rfl) (hj : (l[j]?).bind (·.dst) = some e := by rfl) (hb : L.lookup e = some (.bool q) := by rfl) (hne : (q == want) = false := by rfl) (hd : o.dst = some d := by rfl) (hN : d < X.N := by exact Nat.le_of_ble_eq_true rfl) (hi2 : i < 2000 := by exact Nat.le_of_ble_eq_true rfl) : JD X l b F0 K0 D ((i, true) :: p) listed s F L K :=
  JD.pass hi2 ho hg hj hb hne hd hN h
theorem du {i d j e : Nat} {want : Bool} {o : Oper} (h : JD X l b F0 K0 D p (listed.setIfInBounds i true) s F ((d, undef) :: L) K) (ho : l[i]? = some o := by rfl) (hg : o.guard = some (j, want) := by rfl) (hj : (l[j]?).bind (·.dst) = some e := by rfl) (hb : L.lookup e = some undef := by rfl) (hd : o.dst = some d := by rfl) (hN : d < X.N := by exact Nat.le_of_ble_eq_true rfl) (hi2 : i < 2000 := by exact Nat.le_of_ble_eq_true rfl) : JD X l b F0 K0 D ((i, true) :: p) listed s F L K :=
  JD.passU hi2 ho hg hj hb hd hN h
/-! Operations of a region that draws which read no memory: they come up whenever they like. -/
theorem dq {i d : Nat} {o : Oper} {v : Value} (h : JD X l b F0 K0 D p (listed.setIfInBounds i true) s F ((d, v) :: L) K) (ho : l[i]? = some o := by rfl) (hg : o.guard = none := by rfl) (hd : o.dst = some d := by rfl) (hN : d < X.N := by exact Nat.le_of_ble_eq_true rfl)
    (hv : ∀ F K, SD X.P F K L o.op v := by
      intro _ _
      first
      | exact SD.addI rfl rfl (by omega) (by omega)
      | exact SD.subI rfl rfl (by omega) (by omega)
      | exact SD.mulI rfl rfl (by omega) (by omega)
      | exact SD.negI rfl (by omega) (by omega)
      | exact SD.idxS hT rfl rfl rfl rfl rfl (by omega) (by omega)
      | exact SD.idxA hT rfl rfl rfl rfl rfl (by omega) (by omega)
      | exact SD.quoI rfl rfl (by omega) (by omega) (by omega)
      | exact SD.remI rfl rfl (by omega) (by omega)
      | exact SD.of hT rfl) : JD X l b F0 K0 D ((i + 2000, true) :: p) listed s F L K := JD.pure ho hg hd hN hv h
theorem dqg {i d j e : Nat} {want : Bool} {o : Oper} {v : Value} (h : JD X l b F0 K0 D p (listed.setIfInBounds i true) s F ((d, v) :: L) K) (ho : l[i]? = some o := by rfl) (hg : o.guard = some (j, want) := by rfl) (hj : (l[j]?).bind (·.dst) = some e := by rfl) (hb : L.lookup e = some (.bool want) := by rfl) (hd : o.dst = some d := by rfl) (hN : d < X.N := by exact Nat.le_of_ble_eq_true rfl)
    (hv : ∀ F K, SD X.P F K L o.op v := by
      intro _ _
      first
      | exact SD.addI rfl rfl (by omega) (by omega)
      | exact SD.subI rfl rfl (by omega) (by omega)
      | exact SD.mulI rfl rfl (by omega) (by omega)
      | exact SD.negI rfl (by omega) (by omega)
      | exact SD.idxS hT rfl rfl rfl rfl rfl (by omega) (by omega)
      | exact SD.idxA hT rfl rfl rfl rfl rfl (by omega) (by omega)
      | exact SD.quoI rfl rfl (by omega) (by omega) (by omega)
      | exact SD.remI rfl rfl (by omega) (by omega)
      | exact SD.of hT rfl) : JD X l b F0 K0 D ((i + 2000, true) :: p) listed s F L K := JD.pureG ho hg hj hb hd hN hv h
theorem dqp {i d j e : Nat} {want q : Bool} {o : Oper} (h : JD X l b F0 K0 D p (listed.setIfInBounds i true) s F ((d, undef) :: L) K) (ho : l[i]? = some o := by rfl) (hg : o.guard = some (j, want) := by rfl) (hj : (l[j]?).bind (·.dst) = some e := by rfl) (hb : L.lookup e = some (.bool q) := by rfl) (hne : (q == want) = false := by rfl) (hd : o.dst = some d := by rfl) (hN : d < X.N := by exact Nat.le_of_ble_eq_true rfl) : JD X l b F0 K0 D ((i + 2000, true) :: p) listed s F L K :=
  JD.passP ho hg hj hb hne hd hN h
theorem dqu {i d j e : Nat} {want : Bool} {o : Oper} (h : JD X l b F0 K0 D p (listed.setIfInBounds i true) s F ((d, undef) :: L) K) (ho : l[i]? = some o := by rfl) (hg : o.guard = some (j, want) := by rfl) (hj : (l[j]?).bind (·.dst) = some e := by rfl) (hb : L.lookup e = some undef := by rfl) (hd : o.dst = some d := by rfl) (hN : d < X.N := by exact Nat.le_of_ble_eq_true rfl) : JD X l b F0 K0 D ((i + 2000, true) :: p) listed s F L K :=
  JD.passPU ho hg hj hb hd hN h
theorem dn (h : J X s F L K) : JD X l b F0 K0 D [] listed s F L K := JD.done h
theorem C.go {P : Program} {Θ : Tab} {f : FuncId} {fn : Func} {c : Code} {args : List Value} {F : Mem} {Q : Value → List (Nat × Row) → Prop} {n : Nat} {rs : List ResultVar} (hT : tabOk P Θ = true) (hf : P.funcs[f]? = some fn) (hn : fn.ntmps = n)
    (h : J ⟨P, n, [], retR Θ rs (outX F Q)⟩ [.code c] F (argL 0 args) []) (hb : fn.body = some c := by rfl) (hrs : fn.results.toList = rs := by rfl) (hl : args.length ≤ n := by exact Nat.le_of_ble_eq_true rfl) : C P f args F Q := C.enter hT hf hb hn hrs hl h
/-- the end: a result without tags -/
theorem rt {Θ : Tab} {rs : List ResultVar} {Q : Value → List (Nat × Row) → Prop} {v : Value} {P : Program} {N : Nat} {D : List Nat} (h : Q v []) (hr : resV Θ F L K rs = some v := by rfl) (hv : ∀ κ, rV κ v = v := by intro κ; first | rfl | (simp; done)) : J ⟨P, N, D, retR Θ rs (outX F Q)⟩ (.code .ret :: s) F L K := J.ret ⟨v, hr, outX.plain hv h⟩
theorem re {Θ : Tab} {rs : List ResultVar} {Q : Value → List (Nat × Row) → Prop} {v : Value} {P : Program} {N : Nat} {D : List Nat} (h : Q v []) (hr : resV Θ F L K rs = some v := by rfl) (hv : ∀ κ, rV κ v = v := by intro κ; first | rfl | (simp; done)) : J ⟨P, N, D, retR Θ rs (outX F Q)⟩ [] F L K := ⟨v, hr, outX.plain hv h⟩
end
end Go.Proofs.Ytbeblgjibfoanaa.Am
