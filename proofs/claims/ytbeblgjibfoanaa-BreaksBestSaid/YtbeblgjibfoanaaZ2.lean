/- Rules for walking Go functions, and contracts proved by them (A21, T0, U1, U2, A22, B1, B2, N1, B3, O1, O2, O3, O4, V6, U3, U4, U5, U6, U7, U8, U9). -/
import Derived.Test.YtbeblgjibfoanaaZ1
import Derived.Test.YtbeblgjibfoanaaChecked
import Derived.Scope
import Derived.Laws.Entries
import Derived.Laws.BitsLemmas
import Derived.Laws.Small
import Derived.ChangeArms
import Derived.DataReads
import Derived.WideShapes
import Derived.SizedLaws
namespace Go.Proofs.Ytbeblgjibfoanaa.Am
set_option linter.unusedSimpArgs false
set_option linter.unusedVariables false
open Go Go.RowKit
section
variable {X : Cx} {F F0 : Mem} {L : Slots} {K K0 : Own} {s : List SI} {ops : Array Oper} {o : Oper} {l : List Oper}
/-- a guard whose test is open -/
theorem gD {j d : Nat} {want : Bool} {p : Prop} [Decidable p] (ht : p → JL X ops (o :: l) s F ((d, .bool true) :: L) K) (hf : ¬ p → JL X ops (o :: l) s F ((d, .bool false) :: L) K)
    (hg : o.guard = some (j, want) := by rfl) (hj : (ops[j]?).bind (·.dst) = some d := by rfl) (hb : L.lookup d = some (.bool (decide p)) := by rfl) : JL X ops (o :: l) s F L K := JL.caseD hb ht hf
theorem gN {j d : Nat} {want : Bool} {p : Prop} [Decidable p] (ht : ¬ p → JL X ops (o :: l) s F ((d, .bool true) :: L) K) (hf : p → JL X ops (o :: l) s F ((d, .bool false) :: L) K)
    (hg : o.guard = some (j, want) := by rfl) (hj : (ops[j]?).bind (·.dst) = some d := by rfl) (hb : L.lookup d = some (.bool (!decide p)) := by rfl) : JL X ops (o :: l) s F L K := JL.caseN hb ht hf
theorem gB {j d : Nat} {want b : Bool} (ht : b = true → JL X ops (o :: l) s F ((d, .bool true) :: L) K) (hf : b = false → JL X ops (o :: l) s F ((d, .bool false) :: L) K)
    (hg : o.guard = some (j, want) := by rfl) (hj : (ops[j]?).bind (·.dst) = some d := by rfl) (hb : L.lookup d = some (.bool b) := by rfl) : JL X ops (o :: l) s F L K := JL.case hb ht hf
theorem cD {c : Operand} {x y : Code} {p : Prop} [Decidable p] (ht : p → J X (.code x :: s) F L K) (hf : ¬ p → J X (.code y :: s) F L K) (hc : evO L c = some (.bool (decide p)) := by rfl) : J X (.code (.cond c x y) :: s) F L K := J.condD hc ht hf
theorem cN {c : Operand} {x y : Code} {p : Prop} [Decidable p] (ht : ¬ p → J X (.code x :: s) F L K) (hf : p → J X (.code y :: s) F L K) (hc : evO L c = some (.bool (!decide p)) := by rfl) : J X (.code (.cond c x y) :: s) F L K := J.condN hc ht hf
theorem cB {c : Operand} {x y : Code} {b : Bool} (ht : b = true → J X (.code x :: s) F L K) (hf : b = false → J X (.code y :: s) F L K) (hc : evO L c = some (.bool b) := by rfl) : J X (.code (.cond c x y) :: s) F L K := J.cond hc ht hf
abbrev C0 (P : Program) (f : FuncId) (args : List Value) (F : Mem) (v : Value) : Prop := C P f args F fun u Y => u = v ∧ Y = []
theorem cl {f d : Nat} {args : Array Operand} {ts : Array TypeId} {vs : List Value} {v : Value} (hk : JL X ops l s F ((d, v) :: L) K)
    (hg : o.guard = none := by rfl) (ho : o.op = .call ⟨.value (.func f), args, ts⟩ := by rfl) (hd : o.dst = some d := by rfl) (hN : d < X.N := by exact Nat.le_of_ble_eq_true rfl) (hargs : mapE (evO L) args.toList = some vs := by rfl) (hfn : fnOk X.P f = true := by kernel_rfl) (h : ∀ ι, Val ι K F → F.le (push ι K F) → C0 X.P f (vs.map (rV ι)) (push ι K F) v) : JL X ops (o :: l) s F L K :=
  JL.callC hg ho hd hN hargs hfn h (by rintro _ _ ⟨rfl, rfl⟩ _ _ _; exact hk)
theorem clg {f d j e : Nat} {want : Bool} {args : Array Operand} {ts : Array TypeId} {vs : List Value} {v : Value} (hk : JL X ops l s F ((d, v) :: L) K)
    (hg : o.guard = some (j, want) := by rfl) (hj : (ops[j]?).bind (·.dst) = some e := by rfl) (hb : L.lookup e = some (.bool want) := by rfl) (ho : o.op = .call ⟨.value (.func f), args, ts⟩ := by rfl) (hd : o.dst = some d := by rfl) (hN : d < X.N := by exact Nat.le_of_ble_eq_true rfl) (hargs : mapE (evO L) args.toList = some vs := by rfl) (hfn : fnOk X.P f = true := by kernel_rfl) (h : ∀ ι, Val ι K F → F.le (push ι K F) → C0 X.P f (vs.map (rV ι)) (push ι K F) v) : JL X ops (o :: l) s F L K :=
  JL.callCG hg hj hb ho hd hN hargs hfn h (by rintro _ _ ⟨rfl, rfl⟩ _ _ _; exact hk)
variable {b : Nat} {D : List Nat} {p : List (Nat × Bool)} {listed : Array Bool}
/-- what an open guard says, in a region that draws -/
theorem JD.case {d : Nat} {q : Bool} (hb : L.lookup d = some (.bool q)) (ht : q = true → JD X l b F0 K0 D p listed s F ((d, .bool true) :: L) K) (hf : q = false → JD X l b F0 K0 D p listed s F ((d, .bool false) :: L) K) : JD X l b F0 K0 D p listed s F L K := by
  intro hp hok ι0 ι a w hF hS hag hS0
  have aux : ∀ r, q = r → Fr X.N ι ((d, .bool r) :: L) a := fun r e => ⟨hF.size, hF.defers, fun s v hv => by
    rw [List.lookup_cons] at hv
    split at hv
    · rename_i e2
      have e1 : s = d := by simpa using e2
      subst e1
      simp only [Option.some.injEq] at hv
      subst hv
      rw [← e]; exact hF.slot s _ hb
    · exact hF.slot s v hv⟩
  cases hq : q with
  | true => exact ht hq hp hok ι0 ι a w (aux true hq) hS hag hS0
  | false => exact hf hq hp hok ι0 ι a w (aux false hq) hS hag hS0
theorem dgD {i j d : Nat} {want k : Bool} {o : Oper} {q : Prop} [Decidable q] (ht : q → JD X l b F0 K0 D ((i, k) :: p) listed s F ((d, .bool true) :: L) K) (hf : ¬ q → JD X l b F0 K0 D ((i, k) :: p) listed s F ((d, .bool false) :: L) K)
    (ho : l[i]? = some o := by rfl) (hg : o.guard = some (j, want) := by rfl) (hj : (l[j]?).bind (·.dst) = some d := by rfl) (hb : L.lookup d = some (.bool (decide q)) := by rfl) : JD X l b F0 K0 D ((i, k) :: p) listed s F L K :=
  JD.case hb (fun h => ht (of_decide_eq_true h)) (fun h => hf (of_decide_eq_false h))
theorem dgN {i j d : Nat} {want k : Bool} {o : Oper} {q : Prop} [Decidable q] (ht : ¬ q → JD X l b F0 K0 D ((i, k) :: p) listed s F ((d, .bool true) :: L) K) (hf : q → JD X l b F0 K0 D ((i, k) :: p) listed s F ((d, .bool false) :: L) K)
    (ho : l[i]? = some o := by rfl) (hg : o.guard = some (j, want) := by rfl) (hj : (l[j]?).bind (·.dst) = some d := by rfl) (hb : L.lookup d = some (.bool (!decide q)) := by rfl) : JD X l b F0 K0 D ((i, k) :: p) listed s F L K :=
  JD.case hb (fun h => ht (by simpa using h)) (fun h => hf (by simpa using h))
theorem dgB {i j d : Nat} {want k q : Bool} {o : Oper} (ht : q = true → JD X l b F0 K0 D ((i, k) :: p) listed s F ((d, .bool true) :: L) K) (hf : q = false → JD X l b F0 K0 D ((i, k) :: p) listed s F ((d, .bool false) :: L) K)
    (ho : l[i]? = some o := by rfl) (hg : o.guard = some (j, want) := by rfl) (hj : (l[j]?).bind (·.dst) = some d := by rfl) (hb : L.lookup d = some (.bool q) := by rfl) : JD X l b F0 K0 D ((i, k) :: p) listed s F L K :=
  JD.case hb ht hf
/-- nothing that the others read has turned: rows were added -/
theorem KSub.refl : ∀ {K : Own}, (K.map Prod.fst).Nodup → KSub K K := by
  have aux : ∀ (K0 K1 : Own), ((K1 ++ K0).map Prod.fst).Nodup → KSub K0 (K1 ++ K0) := by
    intro K0
    induction K0 with
    | nil => intro _ _; trivial
    | cons x K0 ih =>
      intro K1 hn
      refine ⟨mem_lookup hn (by simp), ?_, ?_⟩
      · simp only [List.map_append, List.map_cons] at hn
        have := (List.nodup_append.1 hn).2.1
        simp only [List.nodup_cons] at this
        rw [List.all_eq_true]
        intro y hy
        simp only [bne_iff_ne, ne_eq]
        intro e
        exact this.1 (List.mem_map.2 ⟨y, hy, e⟩)
      · have := ih (K1 ++ [x]) (by simpa using hn)
        simpa using this
  intro K hn
  simpa using aux K [] (by simpa using hn)
theorem Kept.same {F0 : Mem} {K0 : Own} (hn : (K0.map Prod.fst).Nodup := by first | exact List.nodup_nil | (simp; done)) : Kept b F0 K0 listed F0 K0 := .inr ⟨KSub.refl hn, [], rfl⟩
theorem Kept.all (h : listed.getD b false = true := by rfl) : Kept b F0 K0 listed F K := .inl h
theorem dcl {i f d : Nat} {o : Oper} {args : Array Operand} {ts : Array TypeId} {vs : List Value} {v : Value} (hk : JD X l b F0 K0 D p (listed.setIfInBounds i true) s F ((d, v) :: L) K)
    (hkp : Kept b F0 K0 (listed.setIfInBounds i true) F K := by first | exact Kept.same | exact Kept.all) (ho : l[i]? = some o := by rfl) (hg : o.guard = none := by rfl) (hop : o.op = .call ⟨.value (.func f), args, ts⟩ := by rfl) (hd : o.dst = some d := by rfl) (hN : d < X.N := by exact Nat.le_of_ble_eq_true rfl) (hargs : mapE (evO L) args.toList = some vs := by rfl) (hfn : fnOk X.P f = true := by kernel_rfl) (hi9 : i < 5000 := by exact Nat.le_of_ble_eq_true rfl) (h : ∀ ι, Val ι K F → F.le (push ι K F) → C0 X.P f (vs.map (rV ι)) (push ι K F) v) : JD X l b F0 K0 D ((i, false) :: p) listed s F L K :=
  JD.callC_ hi9 ho (fun ι a _ => by simp [Region.wanted, hg]) hop hd hN hargs hfn hkp h (by rintro _ _ ⟨rfl, rfl⟩ _ _ _; exact hk)
theorem dclg {i f d j e : Nat} {want : Bool} {o : Oper} {args : Array Operand} {ts : Array TypeId} {vs : List Value} {v : Value} (hk : JD X l b F0 K0 D p (listed.setIfInBounds i true) s F ((d, v) :: L) K)
    (hkp : Kept b F0 K0 (listed.setIfInBounds i true) F K := by first | exact Kept.same | exact Kept.all) (ho : l[i]? = some o := by rfl) (hg : o.guard = some (j, want) := by rfl) (hj : (l[j]?).bind (·.dst) = some e := by rfl) (hb : L.lookup e = some (.bool want) := by rfl) (hop : o.op = .call ⟨.value (.func f), args, ts⟩ := by rfl) (hd : o.dst = some d := by rfl) (hN : d < X.N := by exact Nat.le_of_ble_eq_true rfl) (hargs : mapE (evO L) args.toList = some vs := by rfl) (hfn : fnOk X.P f = true := by kernel_rfl) (hi9 : i < 5000 := by exact Nat.le_of_ble_eq_true rfl) (h : ∀ ι, Val ι K F → F.le (push ι K F) → C0 X.P f (vs.map (rV ι)) (push ι K F) v) : JD X l b F0 K0 D ((i, false) :: p) listed s F L K :=
  JD.callC_ hi9 ho (fun ι a hF => by rw [JL.wanted (ops := l.toArray) hF hg (by simpa using hj) hb]; simp) hop hd hN hargs hfn hkp h (by rintro _ _ ⟨rfl, rfl⟩ _ _ _; exact hk)
/-- a guarded operation that would do something, passed by -/
theorem dpe {i d j e : Nat} {want q : Bool} {o : Oper} (h : JD X l b F0 K0 D p (listed.setIfInBounds i true) s F ((d, undef) :: L) K) (hkp : Kept b F0 K0 (listed.setIfInBounds i true) F K := by first | exact Kept.same | exact Kept.all) (ho : l[i]? = some o := by rfl) (hg : o.guard = some (j, want) := by rfl) (hj : (l[j]?).bind (·.dst) = some e := by rfl) (hb : L.lookup e = some (.bool q) := by rfl) (hne : (q == want) = false := by rfl) (hd : o.dst = some d := by rfl) (hN : d < X.N := by exact Nat.le_of_ble_eq_true rfl) (hi9 : i < 5000 := by exact Nat.le_of_ble_eq_true rfl) : JD X l b F0 K0 D ((i, false) :: p) listed s F L K :=
  JD.passE hi9 ho hg hj hb hne hd hN hkp h
/-- stores, boxes and the like, in a region that draws -/
theorem dso {Θ : Tab} {i : Nat} {o : Oper} {ty : TypeId} {x y : Operand} {t off : Nat} {v : Value} {r : Row} {ti : Ty} (hk : JD X l b F0 K0 D p (listed.setIfInBounds i true) s F L (setK t { r with cs := putL r.cs off (cellsL v), flat := r.flat && (cellsL v).all plain1 } K))
    (ho' : l[i]? = some o := by rfl) (hg : o.guard = none := by rfl) (ho : o.op = .store ty x y := by rfl) (hd : o.dst = none := by rfl) (hθ : tabOk X.P Θ = true := by exact hT) (hi : Θ.lookup ty = some ti := by rfl)
    (hx : evO L x = some (.pointer (some ⟨t, off, some 0⟩)) := by rfl) (hy : evO L y = some v := by rfl) (hv : okV v = true := by rfl) (hr : K.lookup t = some r := by rfl) (hsz : (cellsL v).length = ti.size := by rfl) (hle : off + (cellsL v).length ≤ r.cs.length := by first | exact Nat.le_of_ble_eq_true rfl | (simp; omega))
    (hkp : Kept b F0 K0 (listed.setIfInBounds i true) F (setK t { r with cs := putL r.cs off (cellsL v), flat := r.flat && (cellsL v).all plain1 } K) := by first | exact Kept.all | exact Or.inr ⟨by first | exact trivial | exact ⟨rfl, rfl, trivial⟩ | exact ⟨rfl, rfl, rfl, rfl, trivial⟩ | exact ⟨rfl, rfl, rfl, rfl, rfl, rfl, trivial⟩ | exact ⟨rfl, rfl, rfl, rfl, rfl, rfl, rfl, rfl, trivial⟩, [], rfl⟩) (hi9 : i < 5000 := by exact Nat.le_of_ble_eq_true rfl) : JD X l b F0 K0 D ((i, false) :: p) listed s F L K :=
  JD.op hi9 ho' hg (Go1.store hθ ho hd hi hx hy hv hr hsz hle ⟨hkp, hk⟩)
theorem dal {Θ : Tab} {i : Nat} {o : Oper} {e : TypeId} {d : Nat} {ti : Ty} (hk : JD X l b F0 K0 D p (listed.setIfInBounds i true) s F ((d, .pointer (some ⟨d, 0, some 0⟩)) :: L) ((d, { elem := e, cs := ti.zero, room := ti.zero.length, flat := false }) :: K))
    (ho' : l[i]? = some o := by rfl) (hg : o.guard = none := by rfl) (ho : o.op = .alloc e := by rfl) (hd : o.dst = some d := by rfl) (hN : d < X.N := by exact Nat.le_of_ble_eq_true rfl) (hθ : tabOk X.P Θ = true := by exact hT) (hi : Θ.lookup e = some ti := by rfl) (h1 : ti.zero.all (·.oneCell') = true := by rfl)
    (hL : ntL d L = true := by rfl) (hK : ntK d K = true := by rfl) (hD : D.contains d = false := by rfl)
    (hkp : Kept b F0 K0 (listed.setIfInBounds i true) F ((d, { elem := e, cs := ti.zero, room := ti.zero.length, flat := false }) :: K) := by first | exact Kept.all | exact Or.inr ⟨by first | exact trivial | exact ⟨rfl, rfl, trivial⟩ | exact ⟨rfl, rfl, rfl, rfl, trivial⟩ | exact ⟨rfl, rfl, rfl, rfl, rfl, rfl, trivial⟩ | exact ⟨rfl, rfl, rfl, rfl, rfl, rfl, rfl, rfl, trivial⟩, [], rfl⟩) (hi9 : i < 5000 := by exact Nat.le_of_ble_eq_true rfl) : JD X l b F0 K0 D ((i, false) :: p) listed s F L K :=
  JD.op hi9 ho' hg (Go1.alloc hθ ho hd hN hi h1 hL hK hD ⟨hkp, hk⟩)
/-- an operation that reads what the region itself has made -/
theorem dv {i d : Nat} {o : Oper} {v : Value} (h : JD X l b F0 K0 D p (listed.setIfInBounds i true) s F ((d, v) :: L) K) (ho : l[i]? = some o := by rfl) (hg : o.guard = none := by rfl) (hd : o.dst = some d := by rfl) (hN : d < X.N := by exact Nat.le_of_ble_eq_true rfl)
    (hv : SD X.P F K L o.op v := by first
      | exact SD.load hT rfl rfl rfl (by first | rfl | assumption)
      | exact SD.loadN hT rfl rfl rfl (by first | rfl | assumption)
      | exact SD.of hT rfl)
    (hkp : Kept b F0 K0 (listed.setIfInBounds i true) F K := by first | exact Kept.all | exact Or.inr ⟨by first | exact trivial | exact ⟨rfl, rfl, trivial⟩ | exact ⟨rfl, rfl, rfl, rfl, trivial⟩ | exact ⟨rfl, rfl, rfl, rfl, rfl, rfl, trivial⟩ | exact ⟨rfl, rfl, rfl, rfl, rfl, rfl, rfl, rfl, trivial⟩, [], rfl⟩) (hi9 : i < 5000 := by exact Nat.le_of_ble_eq_true rfl) : JD X l b F0 K0 D ((i, false) :: p) listed s F L K :=
  JD.op hi9 ho hg (Go1.val hd hN hv ⟨hkp, h⟩)
theorem mk {Θ : Tab} {ty el : TypeId} {x c : Operand} {d : Nat} {ti tj : Ty} {kl kc : IntKind} {qn qm : Int} (hk : JL X ops l s F ((d, .slice (some ⟨d, 0, some 0⟩) qn.toNat qm.toNat) :: L) ((d, { elem := el, cs := zer tj qn.toNat, room := qm.toNat * tj.size, flat := true }) :: K))
    (hg : o.guard = none := by rfl) (ho : o.op = .makeSlice ty x c := by rfl) (hd : o.dst = some d := by rfl) (hN : d < X.N := by exact Nat.le_of_ble_eq_true rfl) (hθ : tabOk X.P Θ = true := by exact hT) (hi : Θ.lookup ty = some ti := by rfl) (hki : ti.k = .slice el := by rfl) (hj : Θ.lookup el = some tj := by rfl)
    (hl : evO L x = some (.int kl qn) := by rfl) (hc : evO L c = some (.int kc qm) := by rfl) (h0 : 0 ≤ qn := by omega) (hnm : qn ≤ qm := by omega) (hb : qm.toNat * tj.bytes ≤ 281474976710656 := by (first | omega | (simp; omega))) (hm2 : qm ≤ 9223372036854775807 := by omega) (hz0 : tj.zero.length = tj.size := by rfl) (hz1 : 0 < tj.size := by exact Nat.le_of_ble_eq_true rfl)
    (hL : ntL d L = true := by rfl) (hK : ntK d K = true := by rfl) (hD : X.D.contains d = false := by rfl) : JL X ops (o :: l) s F L K :=
  JL.step hg (Go1.make hθ ho hd hN hi hki hj hl hc (by omega) (by omega) (by omega) hb (by omega) hz0 hz1 hL hK hD hk)
theorem dmk {Θ : Tab} {i : Nat} {o : Oper} {ty el : TypeId} {x c : Operand} {d : Nat} {ti tj : Ty} {kl kc : IntKind} {qn qm : Int} (hk : JD X l b F0 K0 D p (listed.setIfInBounds i true) s F ((d, .slice (some ⟨d, 0, some 0⟩) qn.toNat qm.toNat) :: L) ((d, { elem := el, cs := zer tj qn.toNat, room := qm.toNat * tj.size, flat := true }) :: K))
    (ho' : l[i]? = some o := by rfl) (hg : o.guard = none := by rfl) (ho : o.op = .makeSlice ty x c := by rfl) (hd : o.dst = some d := by rfl) (hN : d < X.N := by exact Nat.le_of_ble_eq_true rfl) (hθ : tabOk X.P Θ = true := by exact hT) (hi : Θ.lookup ty = some ti := by rfl) (hki : ti.k = .slice el := by rfl) (hj : Θ.lookup el = some tj := by rfl)
    (hl : evO L x = some (.int kl qn) := by rfl) (hc : evO L c = some (.int kc qm) := by rfl) (h0 : 0 ≤ qn := by omega) (hnm : qn ≤ qm := by omega) (hb : qm.toNat * tj.bytes ≤ 281474976710656 := by (first | omega | (simp; omega))) (hm2 : qm ≤ 9223372036854775807 := by omega) (hz0 : tj.zero.length = tj.size := by rfl) (hz1 : 0 < tj.size := by exact Nat.le_of_ble_eq_true rfl)
    (hL : ntL d L = true := by rfl) (hK : ntK d K = true := by rfl) (hD : D.contains d = false := by rfl)
    (hkp : Kept b F0 K0 (listed.setIfInBounds i true) F ((d, { elem := el, cs := zer tj qn.toNat, room := qm.toNat * tj.size, flat := true }) :: K) := by first | exact Kept.all | exact Or.inr ⟨by first | exact trivial | exact ⟨rfl, rfl, trivial⟩ | exact ⟨rfl, rfl, rfl, rfl, trivial⟩ | exact ⟨rfl, rfl, rfl, rfl, rfl, rfl, trivial⟩ | exact ⟨rfl, rfl, rfl, rfl, rfl, rfl, rfl, rfl, trivial⟩, [], rfl⟩) (hi9 : i < 5000 := by exact Nat.le_of_ble_eq_true rfl) : JD X l b F0 K0 D ((i, false) :: p) listed s F L K :=
  JD.op hi9 ho' hg (Go1.make hθ ho hd hN hi hki hj hl hc (by omega) (by omega) (by omega) hb (by omega) hz0 hz1 hL hK hD ⟨hkp, hk⟩)
/-- two makes that may come up, one or the other first -/
theorem dmk2 {Θ : Tab} {i j : Nat} {o o2 : Oper} {ty el ty2 el2 : TypeId} {x c x2 c2 : Operand} {d d2 : Nat} {ti tj ti2 tj2 : Ty} {kl kc kl2 kc2 : IntKind} {qn qm qn2 qm2 : Int}
    (hk : JD X l b F0 K0 D ((j, false) :: p) (listed.setIfInBounds i true) s F ((d, .slice (some ⟨d, 0, some 0⟩) qn.toNat qm.toNat) :: L) ((d, { elem := el, cs := zer tj qn.toNat, room := qm.toNat * tj.size, flat := true }) :: K))
    (hk2 : JD X l b F0 K0 D ((i, false) :: p) (listed.setIfInBounds j true) s F ((d2, .slice (some ⟨d2, 0, some 0⟩) qn2.toNat qm2.toNat) :: L) ((d2, { elem := el2, cs := zer tj2 qn2.toNat, room := qm2.toNat * tj2.size, flat := true }) :: K))
    (hij : i < 100 ∧ j < 100 := by exact ⟨Nat.le_of_ble_eq_true rfl, Nat.le_of_ble_eq_true rfl⟩) (hθ : tabOk X.P Θ = true := by exact hT)
    (ho' : l[i]? = some o := by rfl) (hg : o.guard = none := by rfl) (ho : o.op = .makeSlice ty x c := by rfl) (hd : o.dst = some d := by rfl) (hN : d < X.N := by exact Nat.le_of_ble_eq_true rfl) (hi : Θ.lookup ty = some ti := by rfl) (hki : ti.k = .slice el := by rfl) (hj : Θ.lookup el = some tj := by rfl)
    (hl : evO L x = some (.int kl qn) := by rfl) (hc : evO L c = some (.int kc qm) := by rfl) (h0 : 0 ≤ qn := by omega) (hnm : qn ≤ qm := by omega) (hb : qm.toNat * tj.bytes ≤ 281474976710656 := by (first | omega | (simp; omega))) (hm2 : qm ≤ 9223372036854775807 := by omega) (hz0 : tj.zero.length = tj.size := by rfl) (hz1 : 0 < tj.size := by exact Nat.le_of_ble_eq_true rfl)
    (hL : ntL d L = true := by rfl) (hK : ntK d K = true := by rfl) (hD : D.contains d = false := by rfl)
    (hkp : Kept b F0 K0 (listed.setIfInBounds i true) F ((d, { elem := el, cs := zer tj qn.toNat, room := qm.toNat * tj.size, flat := true }) :: K) := by first | exact Kept.all | exact Or.inr ⟨by first | exact trivial | exact ⟨rfl, rfl, trivial⟩ | exact ⟨rfl, rfl, rfl, rfl, trivial⟩, [], rfl⟩)
    (ho2' : l[j]? = some o2 := by rfl) (hg2 : o2.guard = none := by rfl) (ho2 : o2.op = .makeSlice ty2 x2 c2 := by rfl) (hd2 : o2.dst = some d2 := by rfl) (hN2 : d2 < X.N := by exact Nat.le_of_ble_eq_true rfl) (hi2 : Θ.lookup ty2 = some ti2 := by rfl) (hki2 : ti2.k = .slice el2 := by rfl) (hj2 : Θ.lookup el2 = some tj2 := by rfl)
    (hl2 : evO L x2 = some (.int kl2 qn2) := by rfl) (hc2 : evO L c2 = some (.int kc2 qm2) := by rfl) (h02 : 0 ≤ qn2 := by omega) (hnm2 : qn2 ≤ qm2 := by omega) (hb2 : qm2.toNat * tj2.bytes ≤ 281474976710656 := by (first | omega | (simp; omega))) (hm22 : qm2 ≤ 9223372036854775807 := by omega) (hz02 : tj2.zero.length = tj2.size := by rfl) (hz12 : 0 < tj2.size := by exact Nat.le_of_ble_eq_true rfl)
    (hL2 : ntL d2 L = true := by rfl) (hK2 : ntK d2 K = true := by rfl) (hD2 : D.contains d2 = false := by rfl)
    (hkp2 : Kept b F0 K0 (listed.setIfInBounds j true) F ((d2, { elem := el2, cs := zer tj2 qn2.toNat, room := qm2.toNat * tj2.size, flat := true }) :: K) := by first | exact Kept.all | exact Or.inr ⟨by first | exact trivial | exact ⟨rfl, rfl, trivial⟩ | exact ⟨rfl, rfl, rfl, rfl, trivial⟩, [], rfl⟩) : JD X l b F0 K0 D ((10000 + 100 * i + j, false) :: p) listed s F L K :=
  JD.two hij.1 hij.2 ho' ho2' hg hg2 (Go1.make hθ ho hd hN hi hki hj hl hc (by omega) (by omega) (by omega) hb (by omega) hz0 hz1 hL hK hD ⟨hkp, hk⟩) (Go1.make hθ ho2 hd2 hN2 hi2 hki2 hj2 hl2 hc2 (by omega) (by omega) (by omega) hb2 (by omega) hz02 hz12 hL2 hK2 hD2 ⟨hkp2, hk2⟩)
/-- a box, in a region that draws -/
theorem dbx {i : Nat} {o : Oper} {e : TypeId} {x : Operand} {d : Nat} {v : Value} (hk : JD X l b F0 K0 D p (listed.setIfInBounds i true) s F ((d, .pointer (some ⟨d, 0, some 0⟩)) :: L) ((d, { elem := e, cs := cellsL v, room := (cellsL v).length, flat := false }) :: K))
    (ho' : l[i]? = some o := by rfl) (hg : o.guard = none := by rfl) (ho : o.op = .box e x := by rfl) (hd : o.dst = some d := by rfl) (hN : d < X.N := by exact Nat.le_of_ble_eq_true rfl) (hx : evO L x = some v := by rfl) (hv : okV v = true := by rfl)
    (hL : ntL d L = true := by rfl) (hK : ntK d K = true := by rfl) (hD : D.contains d = false := by rfl)
    (hkp : Kept b F0 K0 (listed.setIfInBounds i true) F ((d, { elem := e, cs := cellsL v, room := (cellsL v).length, flat := false }) :: K) := by first | exact Kept.all | exact Or.inr ⟨by first | exact trivial | exact ⟨rfl, rfl, trivial⟩ | exact ⟨rfl, rfl, rfl, rfl, trivial⟩, [], rfl⟩) (hi9 : i < 5000 := by exact Nat.le_of_ble_eq_true rfl) : JD X l b F0 K0 D ((i, false) :: p) listed s F L K :=
  JD.op hi9 ho' hg (Go1.box ho hd hN hx hv hL hK hD ⟨hkp, hk⟩)
end
/-! What is read. -/
/-- a slice of numbers, told by what stands in it -/
def RInts (F : Mem) (v : Value) (xs : List Int) : Prop :=
  (∃ b off c, v = .slice (some ⟨b, off, none⟩) xs.length c ∧ xs.length ≤ 9223372036854775807 ∧ ∀ i x, xs[i]? = some x → look F ⟨b, off + i, none⟩ = some (.int .i64 x)) ∨ (v = .slice none 0 0 ∧ xs = [])
theorem RInts.le {F F' : Mem} {v : Value} {xs : List Int} (h : RInts F v xs) (hl : F.le F') : RInts F' v xs := by
  rcases h with ⟨b, off, c, h1, h2, h3⟩ | h
  · exact .inl ⟨b, off, c, h1, h2, fun i x hx => hl _ _ (h3 i x hx)⟩
  · exact .inr h
end Go.Proofs.Ytbeblgjibfoanaa.Am
namespace Go.Proofs.Ytbeblgjibfoanaa.Am
open Go
def Θ : Tab := [
  (3, { k := .int .i64, size := 1, bytes := 8, zero := [.int .i64 0] }),
  (4, { k := .bool, size := 1, bytes := 1, zero := [.bool false] }),
  (9, { k := .string, size := 1, bytes := 16, zero := [.string .empty] }),
  (22, { k := .slice 49, size := 1, bytes := 24, zero := [.slice none 0 0] }),
  (23, { k := .struct [(0, 3), (1, 3), (2, 3), (3, 3), (4, 3)], size := 5, bytes := 40, zero := [.int .i64 0, .int .i64 0, .int .i64 0, .int .i64 0, .int .i64 0] }),
  (24, { k := .struct [(0, 3), (1, 3), (2, 3), (3, 3), (4, 3)], size := 5, bytes := 40, zero := [.int .i64 0, .int .i64 0, .int .i64 0, .int .i64 0, .int .i64 0] }),
  (28, { k := .slice 3, size := 1, bytes := 24, zero := [.slice none 0 0] }),
  (29, { k := .struct [(0, 28), (1, 3), (2, 4)], size := 3, bytes := 40, zero := [.slice none 0 0, .int .i64 0, .bool false] }),
  (30, { k := .struct [(0, 28), (1, 3), (2, 4)], size := 3, bytes := 40, zero := [.slice none 0 0, .int .i64 0, .bool false] }),
  (31, { k := .int .i64, size := 1, bytes := 8, zero := [.int .i64 0] }),
  (42, { k := .ptr 44, size := 1, bytes := 8, zero := [.pointer none] }),
  (43, { k := .struct [(0, 22), (1, 24), (6, 3), (7, 3), (8, 4)], size := 9, bytes := 88, zero := [.slice none 0 0, .int .i64 0, .int .i64 0, .int .i64 0, .int .i64 0, .int .i64 0, .int .i64 0, .int .i64 0, .bool false] }),
  (44, { k := .struct [(0, 22), (1, 24), (6, 3), (7, 3), (8, 4)], size := 9, bytes := 88, zero := [.slice none 0 0, .int .i64 0, .int .i64 0, .int .i64 0, .int .i64 0, .int .i64 0, .int .i64 0, .int .i64 0, .bool false] }),
  (48, { k := .struct [(0, 3), (1, 3), (2, 3), (3, 3), (4, 3), (5, 4), (6, 3), (7, 3), (8, 3), (9, 3), (10, 28)], size := 11, bytes := 104, zero := [.int .i64 0, .int .i64 0, .int .i64 0, .int .i64 0, .int .i64 0, .bool false, .int .i64 0, .int .i64 0, .int .i64 0, .int .i64 0, .slice none 0 0] }),
  (49, { k := .struct [(0, 3), (1, 3), (2, 3), (3, 3), (4, 3), (5, 4), (6, 3), (7, 3), (8, 3), (9, 3), (10, 28)], size := 11, bytes := 104, zero := [.int .i64 0, .int .i64 0, .int .i64 0, .int .i64 0, .int .i64 0, .bool false, .int .i64 0, .int .i64 0, .int .i64 0, .int .i64 0, .slice none 0 0] }),
  (51, { k := .struct [(0, 3), (1, 3)], size := 2, bytes := 16, zero := [.int .i64 0, .int .i64 0] }),
  (52, { k := .struct [(0, 3), (1, 3)], size := 2, bytes := 16, zero := [.int .i64 0, .int .i64 0] }),
  (62, { k := .ptr 71, size := 1, bytes := 8, zero := [.pointer none] }),
  (64, { k := .slice 69, size := 1, bytes := 24, zero := [.slice none 0 0] }),
  (66, { k := .ptr 69, size := 1, bytes := 8, zero := [.pointer none] }),
  (67, { k := .array 4 3, size := 4, bytes := 32, zero := [.int .i64 0, .int .i64 0, .int .i64 0, .int .i64 0] }),
  (68, { k := .struct [(0, 67), (4, 67)], size := 8, bytes := 64, zero := [.int .i64 0, .int .i64 0, .int .i64 0, .int .i64 0, .int .i64 0, .int .i64 0, .int .i64 0, .int .i64 0] }),
  (69, { k := .struct [(0, 67), (4, 67)], size := 8, bytes := 64, zero := [.int .i64 0, .int .i64 0, .int .i64 0, .int .i64 0, .int .i64 0, .int .i64 0, .int .i64 0, .int .i64 0] }),
  (70, { k := .struct [(0, 22), (1, 28), (2, 28), (3, 28), (4, 28), (5, 28)], size := 6, bytes := 144, zero := [.slice none 0 0, .slice none 0 0, .slice none 0 0, .slice none 0 0, .slice none 0 0, .slice none 0 0] }),
  (71, { k := .struct [(0, 22), (1, 28), (2, 28), (3, 28), (4, 28), (5, 28)], size := 6, bytes := 144, zero := [.slice none 0 0, .slice none 0 0, .slice none 0 0, .slice none 0 0, .slice none 0 0, .slice none 0 0] }),
  (72, { k := .struct [(0, 3), (1, 3), (2, 3), (3, 3), (4, 3), (5, 4)], size := 6, bytes := 48, zero := [.int .i64 0, .int .i64 0, .int .i64 0, .int .i64 0, .int .i64 0, .bool false] }),
  (73, { k := .struct [(0, 3), (1, 3), (2, 3), (3, 3), (4, 3), (5, 4)], size := 6, bytes := 48, zero := [.int .i64 0, .int .i64 0, .int .i64 0, .int .i64 0, .int .i64 0, .bool false] }),
  (77, { k := .slice 80, size := 1, bytes := 24, zero := [.slice none 0 0] }),
  (78, { k := .struct [(0, 3), (1, 3)], size := 2, bytes := 16, zero := [.int .i64 0, .int .i64 0] }),
  (79, { k := .struct [(0, 3), (1, 3)], size := 2, bytes := 16, zero := [.int .i64 0, .int .i64 0] }),
  (80, { k := .array 4 79, size := 8, bytes := 64, zero := [.int .i64 0, .int .i64 0, .int .i64 0, .int .i64 0, .int .i64 0, .int .i64 0, .int .i64 0, .int .i64 0] }),
  (82, { k := .struct [(0, 3), (1, 3), (2, 4)], size := 3, bytes := 24, zero := [.int .i64 0, .int .i64 0, .bool false] }),
  (83, { k := .struct [(0, 3), (1, 3), (2, 4)], size := 3, bytes := 24, zero := [.int .i64 0, .int .i64 0, .bool false] }),
  (94, { k := .array 3 3, size := 3, bytes := 24, zero := [.int .i64 0, .int .i64 0, .int .i64 0] }),
  (5, { k := .int .u8, size := 1, bytes := 1, zero := [.int .u8 0] }),
  (97, { k := .int .u64, size := 1, bytes := 8, zero := [.int .u64 0] }),
  (99, { k := .int .u64, size := 1, bytes := 8, zero := [.int .u64 0] })
]
set_option maxRecDepth 100000 in
theorem hT : tabOk Try.prog Θ = true := by kernel_rfl
end Go.Proofs.Ytbeblgjibfoanaa.Am
namespace Go.Proofs.Ytbeblgjibfoanaa.Am
set_option linter.unusedSimpArgs false
set_option linter.unusedVariables false
set_option maxRecDepth 100000
set_option maxHeartbeats 4000000
open Go Go.RowKit
structure Par where
  w : Int
  tol : Int
  line : Int
  twice : Int
  odd : Int
def Par.v (x : Par) : Value := .agg #[.int .i64 x.w, .int .i64 x.tol, .int .i64 x.line, .int .i64 x.twice, .int .i64 x.odd]
def Par.good (x : Par) : Bool := decide (1 ≤ x.w ∧ x.w ≤ 1073741824 ∧ 0 ≤ x.tol ∧ x.tol ≤ 10000 ∧ 0 ≤ x.line ∧ x.line ≤ 1000 ∧ 0 ≤ x.twice ∧ x.twice ≤ 1000000 ∧ 0 ≤ x.odd ∧ x.odd ≤ 1000000)
theorem sq_bd {x n : Int} (h0 : -n ≤ x) (h1 : x ≤ n) : 0 ≤ x * x ∧ x * x ≤ n * n := by
  rcases Int.le_total 0 x with h | h
  · exact ⟨Int.mul_nonneg h h, Int.mul_le_mul h1 h1 h (by omega)⟩
  · have : x * x = (-x) * (-x) := by rw [Int.neg_mul_neg]
    rw [this]; exact ⟨Int.mul_nonneg (by omega) (by omega), Int.mul_le_mul (by omega) (by omega) (by omega) (by omega)⟩
def lineD (l b p : Int) : Int :=
  if 0 ≤ min (max p (-10000)) 10000 then (min (max l 0) 1000 + min (max b 0) 10000) * (min (max l 0) 1000 + min (max b 0) 10000) + min (max p (-10000)) 10000 * min (max p (-10000)) 10000
  else if -10000 < min (max p (-10000)) 10000 then (min (max l 0) 1000 + min (max b 0) 10000) * (min (max l 0) 1000 + min (max b 0) 10000) - min (max p (-10000)) 10000 * min (max p (-10000)) 10000
  else (min (max l 0) 1000 + min (max b 0) 10000) * (min (max l 0) 1000 + min (max b 0) 10000)
theorem Line_C (F : Mem) (l b p : Int) : C0 Try.prog 57 [.int .i64 l, .int .i64 b, .int .i64 p] F (.int .i64 (lineD l b p)) := by
  have h1 := sq_bd (x := min (max l 0) 1000 + min (max b 0) 10000) (n := 11000) (by omega) (by omega)
  have h2 := sq_bd (x := min (max p (-10000)) 10000) (n := 10000) (by omega) (by omega)
  refine C.go hT Try.func57 Try.ntmps57 ?_
  (repeat' (first | refine st ?_ | refine nl ?_ | refine sq ?_ | refine rg ?_ | refine bl ?_ | refine sk ?_ | refine bk ?_ | refine bx ?_ | refine al ?_ | refine so ?_ | refine mk ?_ | refine ex ?_ | refine lb ?_ | refine cT ?_ | refine cF ?_ | refine sg ?_ | refine sp ?_ | refine su ?_ | refine gD (fun _ => ?_) (fun _ => ?_) | refine gN (fun _ => ?_) (fun _ => ?_) | refine cD (fun _ => ?_) (fun _ => ?_) | refine cN (fun _ => ?_) (fun _ => ?_)))
  all_goals (refine rt ⟨?_, rfl⟩; simp only [lineD, *, if_true, if_false])
theorem Good_C (F : Mem) (x : Par) : C0 Try.prog 34 [x.v] F (.bool x.good) := by
  obtain ⟨w, tol, line, twice, odd⟩ := x
  dsimp only [Par.v]
  refine C.go hT Try.func34 Try.ntmps34 ?_
  (repeat' (first | refine st ?_ | refine nl ?_ | refine sq ?_ | refine rg ?_ | refine bl ?_ | refine sk ?_ | refine bk ?_ | refine bx ?_ | refine al ?_ | refine so ?_ | refine mk ?_ | refine ex ?_ | refine lb ?_ | refine cT ?_ | refine cF ?_ | refine sg ?_ | refine sp ?_ | refine su ?_ | refine gD (fun _ => ?_) (fun _ => ?_) | refine gN (fun _ => ?_) (fun _ => ?_) | refine cD (fun _ => ?_) (fun _ => ?_) | refine cN (fun _ => ?_) (fun _ => ?_)))
  all_goals (refine rt ⟨?_, rfl⟩; simp only [Par.good, Value.bool.injEq, eq_comm (a := false), eq_comm (a := true), decide_eq_true_eq, decide_eq_false_iff_not, decide_eq_decide]; omega)
theorem sized_C (F : Mem) (x : Int) : C0 Try.prog 53 [.int .i64 x] F (.bool (decide (0 ≤ x ∧ x ≤ 1073741824))) := by
  refine C.go hT Try.func53 Try.ntmps53 ?_
  (repeat' (first | refine st ?_ | refine nl ?_ | refine sq ?_ | refine rg ?_ | refine bl ?_ | refine sk ?_ | refine bk ?_ | refine bx ?_ | refine al ?_ | refine so ?_ | refine mk ?_ | refine ex ?_ | refine lb ?_ | refine cT ?_ | refine cF ?_ | refine sg ?_ | refine sp ?_ | refine su ?_ | refine gD (fun _ => ?_) (fun _ => ?_) | refine gN (fun _ => ?_) (fun _ => ?_) | refine cD (fun _ => ?_) (fun _ => ?_) | refine cN (fun _ => ?_) (fun _ => ?_)))
  all_goals (refine rt ⟨?_, rfl⟩; simp only [Value.bool.injEq, eq_comm (a := false), decide_eq_true_eq, decide_eq_false_iff_not, decide_eq_decide]; omega)
theorem within_C (F : Mem) (x lo hi : Int) : C0 Try.prog 63 [.int .i64 x, .int .i64 lo, .int .i64 hi] F (.int .i64 (min (max x lo) hi)) := by
  refine C.go hT Try.func63 Try.ntmps63 ?_
  (repeat' (first | refine st ?_ | refine nl ?_ | refine sq ?_ | refine rg ?_ | refine bl ?_ | refine sk ?_ | refine bk ?_ | refine bx ?_ | refine al ?_ | refine so ?_ | refine mk ?_ | refine ex ?_ | refine lb ?_ | refine cT ?_ | refine cF ?_ | refine sg ?_ | refine sp ?_ | refine su ?_ | refine gD (fun _ => ?_) (fun _ => ?_) | refine gN (fun _ => ?_) (fun _ => ?_) | refine cD (fun _ => ?_) (fun _ => ?_) | refine cN (fun _ => ?_) (fun _ => ?_)))
  all_goals (exact rt ⟨rfl, rfl⟩)
theorem limits_C (F : Mem) : C0 Try.prog 59 [] F (.agg #[.int .i64 12, .int .i64 99, .int .i64 10000]) := by
  refine C.go hT Try.func59 Try.ntmps59 ?_
  (repeat (first | refine st ?_ | refine nl ?_ | refine sq ?_ | refine rg ?_ | refine bl ?_ | refine sk ?_ | refine bk ?_ | refine bx ?_ | refine al ?_ | refine so ?_ | refine mk ?_ | refine ex ?_ | refine lb ?_ | refine cT ?_ | refine cF ?_ | refine sg ?_ | refine sp ?_ | refine su ?_))
  exact rt ⟨rfl, rfl⟩
def moreD (a b : Int) (f g : Bool) (x : Par) : Int := (if 1 < min (max a 0) 3 - min (max b 0) 3 ∨ 1 < min (max b 0) 3 - min (max a 0) 3 then min (max x.odd 0) 1000000 else 0) + (if (f && g) = true then min (max x.twice 0) 1000000 else 0)
theorem More_C (F : Mem) (a b : Int) (f g : Bool) (x : Par) : C0 Try.prog 58 [.int .i64 a, .int .i64 b, .bool f, .bool g, x.v] F (.int .i64 (moreD a b f g x)) := by
  obtain ⟨w, tol, line, twice, odd⟩ := x
  dsimp only [Par.v]
  cases f <;> cases g <;> refine C.go hT Try.func58 Try.ntmps58 ?_
  all_goals (repeat' (first | refine st ?_ | refine nl ?_ | refine sq ?_ | refine rg ?_ | refine bl ?_ | refine sk ?_ | refine bk ?_ | refine bx ?_ | refine al ?_ | refine so ?_ | refine mk ?_ | refine ex ?_ | refine lb ?_ | refine cT ?_ | refine cF ?_ | refine sg ?_ | refine sp ?_ | refine su ?_ | refine gD (fun _ => ?_) (fun _ => ?_) | refine gN (fun _ => ?_) (fun _ => ?_) | refine cD (fun _ => ?_) (fun _ => ?_) | refine cN (fun _ => ?_) (fun _ => ?_)))
  all_goals (refine rt ⟨?_, rfl⟩; simp only [moreD, Value.int.injEq, true_and, Bool.and_self, Bool.and_true, Bool.and_false, if_true, Bool.false_eq_true, if_false]; (repeat' split) <;> omega)

end Go.Proofs.Ytbeblgjibfoanaa.Am
namespace Go.Proofs.Ytbeblgjibfoanaa.Am
set_option linter.unusedSimpArgs false
set_option linter.unusedVariables false
set_option maxRecDepth 100000
set_option maxHeartbeats 4000000
open Go Go.RowKit
structure Item where
  kind : Int
  width : Int
  stretch : Int
  shrink : Int
  cost : Int
  flag : Bool
  font : Int
  size : Int
  link : Int
  run : Int
  glyphs : List Int
deriving instance DecidableEq for Item
def Item.cells (x : Item) (g : Value) : List Value := [.int .i64 x.kind, .int .i64 x.width, .int .i64 x.stretch, .int .i64 x.shrink, .int .i64 x.cost, .bool x.flag, .int .i64 x.font, .int .i64 x.size, .int .i64 x.link, .int .i64 x.run, g]
theorem lookN_at {F : Mem} {a : Addr} {n : Nat} {cs : List Value} (h : lookN F a n = some cs) (j : Nat) {v : Value} (hv : cs[j]? = some v) : look F (addA a j) = some v := (lookN_spec h).2 j v hv
/-- an item's glyphs: of none, the address may be any -/
def RGl (F : Mem) (g : Value) (xs : List Int) : Prop := RInts F g xs ∨ ∃ b o s, g = .slice (some ⟨b, o, some (s + 1)⟩) 0 0 ∧ xs = []
theorem RGl.le {F F' : Mem} {v : Value} {xs : List Int} (h : RGl F v xs) (hl : F.le F') : RGl F' v xs := by
  rcases h with h | h
  · exact .inl (h.le hl)
  · exact .inr h
/-- a slice of items, told by what stands in it -/
def RItems (F : Mem) (v : Value) (l : List Item) : Prop :=
  (∃ b off c, v = .slice (some ⟨b, off, none⟩) l.length c ∧ l.length ≤ 9223372036854775807 ∧ ∀ i x, l[i]? = some x → ∃ g, lookN F ⟨b, off + i * 11, none⟩ 11 = some (x.cells g) ∧ RGl F g x.glyphs) ∨ (v = .slice none 0 0 ∧ l = [])
theorem RItems.le {F F' : Mem} {v : Value} {l : List Item} (h : RItems F v l) (hl : F.le F') : RItems F' v l := by
  have aux : ∀ n a cs, lookN F a n = some cs → lookN F' a n = some cs := by
    intro n
    induction n with
    | zero => intro a cs h; exact h
    | succ n ih =>
      intro a cs h
      simp only [lookN] at h ⊢
      split at h <;> try (simp at h; done)
      rename_i v hv
      split at h <;> try (simp at h; done)
      rename_i cs' hcs
      rw [hl _ _ hv, ih _ _ hcs]; exact h
  rcases h with ⟨b, off, c, h1, h2, h3⟩ | h
  · exact .inl ⟨b, off, c, h1, h2, fun i x hx => by obtain ⟨g, hg, hr⟩ := h3 i x hx; exact ⟨g, aux _ _ _ hg, hr.le hl⟩⟩
  · exact .inr h
def Item.dflt : Item := ⟨0, 0, 0, 0, 0, false, 0, 0, 0, 0, []⟩
def at_ (l : List Item) (i : Nat) : Item := l.getD i Item.dflt
theorem at_get {l : List Item} {i : Nat} (h : i < l.length) : l[i]? = some (at_ l i) := by simp [at_, List.getD_eq_getElem?_getD, List.getElem?_eq_getElem h]
/-- a slice of no items or some, each of whose cells is told -/
theorem RItems.cases {F : Mem} {v : Value} {l : List Item} (h : RItems F v l) : (∃ b off c, v = .slice (some ⟨b, off, none⟩) l.length c ∧ l.length ≤ 9223372036854775807 ∧ ∀ i, i < l.length →
    look F ⟨b, off + i * 11 + 0, none⟩ = some (.int .i64 (at_ l i).kind) ∧ look F ⟨b, off + i * 11 + 1, none⟩ = some (.int .i64 (at_ l i).width) ∧ look F ⟨b, off + i * 11 + 2, none⟩ = some (.int .i64 (at_ l i).stretch) ∧ look F ⟨b, off + i * 11 + 3, none⟩ = some (.int .i64 (at_ l i).shrink) ∧ look F ⟨b, off + i * 11 + 4, none⟩ = some (.int .i64 (at_ l i).cost) ∧ look F ⟨b, off + i * 11 + 5, none⟩ = some (.bool (at_ l i).flag) ∧
    ∃ g, lookN F ⟨b, off + i * 11, none⟩ 11 = some ((at_ l i).cells g) ∧ RGl F g (at_ l i).glyphs) ∨ (v = .slice none 0 0 ∧ l = []) := by
  rcases h with ⟨b, off, c, h1, h2, h3⟩ | h
  · refine .inl ⟨b, off, c, h1, h2, fun i hi => ?_⟩
    obtain ⟨g, hg, hr⟩ := h3 i _ (at_get hi)
    exact ⟨lookN_at hg 0 rfl, lookN_at hg 1 rfl, lookN_at hg 2 rfl, lookN_at hg 3 rfl, lookN_at hg 4 rfl, lookN_at hg 5 rfl, g, hg, hr⟩
  · exact .inr h
def Item.ok (x : Item) : Bool := decide (1 ≤ x.kind ∧ x.kind ≤ 3 ∧ 0 ≤ x.width ∧ x.width ≤ 1073741824 ∧ 0 ≤ x.stretch ∧ x.stretch ≤ 1073741824 ∧ 0 ≤ x.shrink ∧ x.shrink ≤ 1073741824 ∧ -10000 ≤ x.cost ∧ x.cost ≤ 10000)
def goodL (l : List Item) : Bool := decide (1 ≤ l.length ∧ l.length ≤ 1024) && l.all Item.ok && decide ((at_ l 0).kind = 1) && decide ((at_ l (l.length - 1)).kind = 3) && decide ((at_ l (l.length - 1)).cost = -10000)
def forceB (x : Item) : Bool := decide (x.kind = 3 ∧ x.cost = -10000)
/-- a value of items, by itself -/
def SlV (g : Value) : Prop := (∃ b o n c, g = .slice (some ⟨b, o, none⟩) n c) ∨ ∃ n c, g = .slice none n c
theorem RInts.sl {F : Mem} {g : Value} {xs : List Int} (h : RInts F g xs) : SlV g := by
  rcases h with ⟨b, off, c, h1, _⟩ | ⟨h, _⟩
  · exact .inl ⟨b, off, _, c, h1⟩
  · exact .inr ⟨_, _, h⟩
/-- an item's own slice, wherever it lies -/
def SlG (g : Value) : Prop := SlV g ∨ ∃ b o s n c, g = .slice (some ⟨b, o, some (s + 1)⟩) n c
theorem RGl.sl {F : Mem} {g : Value} {xs : List Int} (h : RGl F g xs) : SlG g := by
  rcases h with h | ⟨b, o, s, h, _⟩
  · exact .inl h.sl
  · exact .inr ⟨b, o, s, 0, 0, h⟩
theorem force_C (F : Mem) (x : Item) (g : Value) (hg : SlG g) : C0 Try.prog 54 [.agg ⟨x.cells g⟩] F (.bool (forceB x)) := by
  rcases hg with (⟨b, o, n, c, rfl⟩ | ⟨n, c, rfl⟩) | ⟨b, o, gsp, n, c, rfl⟩ <;> refine C.go hT Try.func54 Try.ntmps54 ?_
  all_goals (repeat' (first | refine st ?_ | refine nl ?_ | refine sq ?_ | refine rg ?_ | refine bl ?_ | refine sk ?_ | refine bk ?_ | refine bx ?_ | refine al ?_ | refine so ?_ | refine mk ?_ | refine ex ?_ | refine lb ?_ | refine cT ?_ | refine cF ?_ | refine sg ?_ | refine sp ?_ | refine su ?_ | refine gD (fun _ => ?_) (fun _ => ?_) | refine gN (fun _ => ?_) (fun _ => ?_) | refine cD (fun _ => ?_) (fun _ => ?_) | refine cN (fun _ => ?_) (fun _ => ?_)))
  all_goals (refine rt ⟨?_, rfl⟩; simp only [forceB, Value.bool.injEq, eq_comm (a := false), eq_comm (a := true), decide_eq_true_eq, decide_eq_false_iff_not, decide_eq_decide]; omega)
theorem rforced_C (F : Mem) (x : Item) (g : Value) (hg : SlG g) : C0 Try.prog 46 [.agg ⟨x.cells g⟩] F (.bool (forceB x)) := by
  rcases hg with (⟨b, o, n, c, rfl⟩ | ⟨n, c, rfl⟩) | ⟨b, o, gsp, n, c, rfl⟩ <;> refine C.go hT Try.func46 Try.ntmps46 ?_
  all_goals (repeat' (first | refine st ?_ | refine nl ?_ | refine sq ?_ | refine rg ?_ | refine bl ?_ | refine sk ?_ | refine bk ?_ | refine bx ?_ | refine al ?_ | refine so ?_ | refine mk ?_ | refine ex ?_ | refine lb ?_ | refine cT ?_ | refine cF ?_ | refine sg ?_ | refine sp ?_ | refine su ?_ | refine gD (fun _ => ?_) (fun _ => ?_) | refine gN (fun _ => ?_) (fun _ => ?_) | refine cD (fun _ => ?_) (fun _ => ?_) | refine cN (fun _ => ?_) (fun _ => ?_)))
  all_goals (refine rt ⟨?_, rfl⟩; simp only [forceB, Value.bool.injEq, eq_comm (a := false), eq_comm (a := true), decide_eq_true_eq, decide_eq_false_iff_not, decide_eq_decide]; omega)
def costB (x : Item) : Int := if x.kind = 3 then x.cost else 0
def flagB (x : Item) : Bool := decide (x.kind = 3) && x.flag
theorem rcost_C (F : Mem) (x : Item) (g : Value) (hg : SlG g) : C0 Try.prog 50 [.agg ⟨x.cells g⟩] F (.int .i64 (costB x)) := by
  rcases hg with (⟨b, o, n, c, rfl⟩ | ⟨n, c, rfl⟩) | ⟨b, o, gsp, n, c, rfl⟩ <;> refine C.go hT Try.func50 Try.ntmps50 ?_
  all_goals (repeat' (first | refine st ?_ | refine nl ?_ | refine sq ?_ | refine rg ?_ | refine bl ?_ | refine sk ?_ | refine bk ?_ | refine bx ?_ | refine al ?_ | refine so ?_ | refine mk ?_ | refine ex ?_ | refine lb ?_ | refine cT ?_ | refine cF ?_ | refine sg ?_ | refine sp ?_ | refine su ?_ | refine gD (fun _ => ?_) (fun _ => ?_) | refine gN (fun _ => ?_) (fun _ => ?_) | refine cD (fun _ => ?_) (fun _ => ?_) | refine cN (fun _ => ?_) (fun _ => ?_)))
  all_goals (refine rt ⟨?_, rfl⟩; simp only [costB, *, if_true, if_false])
theorem rflag_C (F : Mem) (x : Item) (g : Value) (hg : SlG g) : C0 Try.prog 52 [.agg ⟨x.cells g⟩] F (.bool (flagB x)) := by
  rcases hg with (⟨b, o, n, c, rfl⟩ | ⟨n, c, rfl⟩) | ⟨b, o, gsp, n, c, rfl⟩ <;> refine C.go hT Try.func52 Try.ntmps52 ?_
  all_goals (repeat' (first | refine st ?_ | refine nl ?_ | refine sq ?_ | refine rg ?_ | refine bl ?_ | refine sk ?_ | refine bk ?_ | refine bx ?_ | refine al ?_ | refine so ?_ | refine mk ?_ | refine ex ?_ | refine lb ?_ | refine cT ?_ | refine cF ?_ | refine sg ?_ | refine sp ?_ | refine su ?_ | refine gD (fun _ => ?_) (fun _ => ?_) | refine gN (fun _ => ?_) (fun _ => ?_) | refine cD (fun _ => ?_) (fun _ => ?_) | refine cN (fun _ => ?_) (fun _ => ?_)))
  all_goals (refine rt ⟨?_, rfl⟩; simp [flagB, *])

end Go.Proofs.Ytbeblgjibfoanaa.Am
namespace Go.Proofs.Ytbeblgjibfoanaa.Am
set_option linter.unusedSimpArgs false
set_option linter.unusedVariables false
open Go Go.RowKit
/-! Rows of numbers, told by a function; several makes in any order. -/
def gI (T : Nat → Int) (n : Nat) : List Value := (List.range n).map fun k => .int .i64 (T k)
def setI (T : Nat → Int) (i : Nat) (v : Int) : Nat → Int := fun k => if k = i then v else T k
theorem gI_length (T : Nat → Int) (n : Nat) : (gI T n).length = n := by simp [gI]
theorem gI_get {T : Nat → Int} {n i : Nat} (h : i < n) : (gI T n)[i]? = some (.int .i64 (T i)) := by simp [gI, h]
theorem gI_plain (T : Nat → Int) (n : Nat) : ∀ v ∈ gI T n, plain1 v = true := by
  intro v hv
  obtain ⟨k, _, rfl⟩ := List.mem_map.1 hv
  rfl
theorem gI_put (T : Nat → Int) (n i : Nat) (v : Int) : putL (gI T n) i [.int .i64 v] = gI (setI T i v) n := by
  simp only [putL]
  apply List.ext_getElem?
  intro k
  by_cases hk : k < n
  · rw [gI_get hk]
    by_cases h : k = i
    · subst h
      rw [List.getElem?_set]
      simp [gI_length, hk, setI]
    · rw [List.getElem?_set]
      simp only [Ne.symm h, if_false, gI_get hk, setI, h]
  · rw [List.getElem?_eq_none (by simp [gI_length]; omega), List.getElem?_eq_none (by simp [gI_length]; omega)]
theorem zer_gI {ti : Ty} (h : ti.zero = [.int .i64 0]) (n : Nat) : zer ti n = gI (fun _ => 0) n := by
  rw [zer_one h]
  simp [gI, List.map_const']
section
variable {P : Program} {N : Nat} {D : List Nat} {Θ : Tab} {F : Mem} {K : Own} {L : Slots} {T : Pst} (hθ : tabOk P Θ = true)
include hθ
theorem SD.loadG {t : TypeId} {x : Operand} {ti : Ty} {b off n : Nat} {G : Nat → Int} {r : Row} (ht : Θ.lookup t = some ti) (hag : aggB ti.k = false) (hx : evO L x = some (.pointer (some ⟨b, off, some 0⟩))) (hr : K.lookup b = some r) (hcs : r.cs = gI G n) (hlt : off < n) : SD P F K L (.load t x) (.int .i64 (G off)) := by
  refine SD.load hθ ht hag hx ?_
  simp only [rdA, hr, Option.bind_some, cellAt, hcs, gI_get hlt]
theorem Go1.storeG {o : Oper} {ty : TypeId} {x y : Operand} {t off n : Nat} {z : Int} {G : Nat → Int} {r : Row} {ti : Ty} (ho : o.op = .store ty x y) (hd : o.dst = none) (hi : Θ.lookup ty = some ti)
    (hx : evO L x = some (.pointer (some ⟨t, off, some 0⟩))) (hy : evO L y = some (.int .i64 z)) (hr : K.lookup t = some r) (hcs : r.cs = gI G n) (hsz : ti.size = 1) (hle : off < n)
    (h : T F L (setK t { r with cs := gI (setI G off z) n } K)) : Go1 P N D F L K o T := by
  refine Go1.store hθ ho hd hi hx hy rfl hr (by rw [hsz]; rfl) (by rw [hcs, gI_length]; exact hle) ?_
  have e : putL r.cs off (cellsL (.int .i64 z)) = gI (setI G off z) n := by rw [hcs]; exact gI_put G n off z
  rw [e]
  have e2 : (r.flat && (cellsL (.int .i64 z)).all plain1) = r.flat := by simp [cellsL, plain1, plain0]
  rw [e2]
  exact h
end
section
variable {X : Cx} {F F0 : Mem} {L : Slots} {K K0 : Own} {s : List SI} {ops : Array Oper} {o : Oper} {l : List Oper} {b : Nat} {D : List Nat} {p : List (Nat × Bool)} {listed : Array Bool} {Θ : Tab}
theorem soG {ty : TypeId} {x y : Operand} {t off n : Nat} {z : Int} {G : Nat → Int} {r : Row} {ti : Ty} (hk : JL X ops l s F L (setK t { r with cs := gI (setI G off z) n } K))
    (hg : o.guard = none := by rfl) (ho : o.op = .store ty x y := by rfl) (hd : o.dst = none := by rfl) (hθ : tabOk X.P Θ = true := by exact hT) (hi : Θ.lookup ty = some ti := by rfl)
    (hx : evO L x = some (.pointer (some ⟨t, off, some 0⟩)) := by rfl) (hy : evO L y = some (.int .i64 z) := by rfl) (hr : K.lookup t = some r := by rfl) (hcs : r.cs = gI G n := by rfl) (hsz : ti.size = 1 := by rfl) (hle : off < n := by (try dsimp only); omega) : JL X ops (o :: l) s F L K :=
  JL.step hg (Go1.storeG hθ ho hd hi hx hy hr hcs hsz hle hk)
theorem dsoG {i : Nat} {o : Oper} {ty : TypeId} {x y : Operand} {t off n : Nat} {z : Int} {G : Nat → Int} {r : Row} {ti : Ty} (hk : JD X l b F0 K0 D p (listed.setIfInBounds i true) s F L (setK t { r with cs := gI (setI G off z) n } K))
    (ho' : l[i]? = some o := by rfl) (hg : o.guard = none := by rfl) (ho : o.op = .store ty x y := by rfl) (hd : o.dst = none := by rfl) (hθ : tabOk X.P Θ = true := by exact hT) (hi : Θ.lookup ty = some ti := by rfl)
    (hx : evO L x = some (.pointer (some ⟨t, off, some 0⟩)) := by rfl) (hy : evO L y = some (.int .i64 z) := by rfl) (hr : K.lookup t = some r := by rfl) (hcs : r.cs = gI G n := by rfl) (hsz : ti.size = 1 := by rfl)
    (hle : off < n := by (try dsimp only); omega) (hkp : (listed.setIfInBounds i true).getD b false = true := by rfl) (hi9 : i < 5000 := by exact Nat.le_of_ble_eq_true rfl) : JD X l b F0 K0 D ((i, false) :: p) listed s F L K :=
  JD.op hi9 ho' hg (Go1.storeG hθ ho hd hi hx hy hr hcs hsz hle ⟨.inl hkp, hk⟩)
/-- several makes of one type and length, in any order -/
theorem dmks {c : Nat} {ms : List Nat} {ty el : TypeId} {ti tj : Ty} {q : Int} (eD : Nat → Nat) {L0 : Slots}
    (hk : JD X l b F [] D p (ms.foldl (fun a m => a.setIfInBounds m true) listed) s F ((ms.map fun x => (eD x, .slice (some ⟨eD x, 0, some 0⟩) q.toNat q.toNat)) ++ L0) (ms.map fun x => (eD x, { elem := el, cs := zer tj q.toNat, room := q.toNat * tj.size, flat := true })))
    (hop : ∀ m ∈ ms, ∃ o tm kl, l[m]? = some o ∧ o.guard = none ∧ o.op = .makeSlice ty (.tmp tm) (.tmp tm) ∧ o.dst = some (eD m) ∧ L.lookup tm = some (.int kl q) ∧ (ms.map eD).contains tm = false)
    (hN : ∀ m ∈ ms, eD m < X.N) (hL : ∀ m ∈ ms, ntL (eD m) L = true) (hD : ∀ m ∈ ms, D.contains (eD m) = false)
    (hL0 : LSub L0 L) (hq : 0 ≤ q) (hq2 : q.toNat * tj.bytes ≤ 281474976710656) (hq3 : q ≤ 9223372036854775807) (hnd : (ms.map eD).Nodup) (hc : 1000000 ≤ c := by exact Nat.le_of_ble_eq_true rfl) (hms : decM 20 (c - 1000000) = ms := by rfl) (hlen : ms.length ≤ 20 := by exact Nat.le_of_ble_eq_true rfl)
    (hd0 : (L0.all fun x => !(ms.map eD).contains x.1) = true := by rfl) (hθ : tabOk X.P Θ = true := by exact hT) (hi : Θ.lookup ty = some ti := by rfl) (hki : ti.k = .slice el := by rfl) (hj : Θ.lookup el = some tj := by rfl) (hz0 : tj.zero.length = tj.size := by rfl) (hz1 : 0 < tj.size := by exact Nat.le_of_ble_eq_true rfl) :
    JD X l b F [] D ((c, false) :: p) listed s F L [] := by
  refine JD.many eD (fun x => .slice (some ⟨eD x, 0, some 0⟩) q.toNat q.toNat) (fun x => { elem := el, cs := zer tj q.toNat, room := q.toNat * tj.size, flat := true }) hc hms hnd hlen ?_ hL0 hd0 hk
  intro m hm C hC hmC
  obtain ⟨o, tm, kl, h1, h2, h3, h4, h5, h6⟩ := hop m hm
  refine ⟨o, h1, h2, fun T hT => ?_⟩
  have hinj : ∀ x ∈ ms, eD x = eD m → x = m := by
    intro x hx he
    have aux : ∀ q : List Nat, (q.map eD).Nodup → x ∈ q → m ∈ q → x = m := by
      intro q
      induction q with
      | nil => intro _ h; cases h
      | cons y q ih =>
        intro hn hx hm
        simp only [List.map_cons, List.nodup_cons] at hn
        rcases List.mem_cons.1 hx with h1 | hx <;> rcases List.mem_cons.1 hm with h2 | hm
        · rw [h1, h2]
        · exact absurd (List.mem_map.2 ⟨m, hm, by rw [← he, h1]⟩) hn.1
        · exact absurd (List.mem_map.2 ⟨x, hx, by rw [he, h2]⟩) hn.1
        · exact ih hn.2 hx hm
    exact aux ms hnd hx hm
  have hne : ∀ x ∈ C, eD x ≠ eD m := fun x hx he => hmC (hinj x (hC x hx) he ▸ hx)
  have hlk : ((C.map fun x => (eD x, (.slice (some ⟨eD x, 0, some 0⟩) q.toNat q.toNat : Value))) ++ L).lookup tm = some (.int kl q) := by
    rw [lookup_append_right]
    · exact h5
    · intro hx
      obtain ⟨y, hy, e⟩ := List.mem_map.1 hx
      obtain ⟨x, hx2, rfl⟩ := List.mem_map.1 hy
      simp only [List.contains_eq_mem, decide_eq_false_iff_not] at h6
      exact h6 (List.mem_map.2 ⟨x, hC x hx2, e⟩)
  refine Go1.make hθ h3 h4 (hN m hm) hi hki hj (l := .tmp tm) (c := .tmp tm) hlk hlk (by omega) (by omega) (Nat.le_refl _) hq2 (by omega) hz0 hz1 ?_ ?_ (hD m hm) hT
  · unfold ntL
    rw [List.all_append, Bool.and_eq_true]
    refine ⟨List.all_eq_true.2 fun x hx => ?_, hL m hm⟩
    obtain ⟨y, hy, rfl⟩ := List.mem_map.1 hx
    simp [ntV, nt2, nt1, nt0, hne y hy]
  · unfold ntK
    refine List.all_eq_true.2 fun x hx => ?_
    obtain ⟨y, hy, rfl⟩ := List.mem_map.1 hx
    simp [hne y hy]
/-- a row of numbers, made by the call itself -/
def rI (T : Nat → Int) (n : Nat) : Row := { elem := 3, cs := gI T n, room := n, flat := true }
/-- several slices of numbers -/
theorem dmksI {c : Nat} {ms : List Nat} {ty : TypeId} {ti tj : Ty} {q : Int} (n : Nat) (eD : Nat → Nat) {L0 : Slots}
    (hk : JD X l b F [] D p (ms.foldl (fun a m => a.setIfInBounds m true) listed) s F ((ms.map fun x => (eD x, .slice (some ⟨eD x, 0, some 0⟩) n n)) ++ L0) (ms.map fun x => (eD x, rI (fun _ => 0) n)))
    (hop : ∀ m ∈ ms, ∃ o tm kl, l[m]? = some o ∧ o.guard = none ∧ o.op = .makeSlice ty (.tmp tm) (.tmp tm) ∧ o.dst = some (eD m) ∧ L.lookup tm = some (.int kl q) ∧ (ms.map eD).contains tm = false)
    (hN : ∀ m ∈ ms, eD m < X.N) (hL : ∀ m ∈ ms, ntL (eD m) L = true) (hD : ∀ m ∈ ms, D.contains (eD m) = false)
    (hL0 : LSub L0 L) (hq : q = n) (hq2 : n * 8 ≤ 281474976710656) (hnd : (ms.map eD).Nodup) (hc : 1000000 ≤ c := by exact Nat.le_of_ble_eq_true rfl) (hms : decM 20 (c - 1000000) = ms := by rfl) (hlen : ms.length ≤ 20 := by exact Nat.le_of_ble_eq_true rfl)
    (hd0 : (L0.all fun x => !(ms.map eD).contains x.1) = true := by rfl) (hθ : tabOk X.P Θ = true := by exact hT) (hi : Θ.lookup ty = some ti := by rfl) (hki : ti.k = .slice 3 := by rfl) (hj : Θ.lookup 3 = some tj := by rfl) (hz : tj.zero = [.int .i64 0] := by rfl) (hz0 : tj.size = 1 := by rfl) (hb8 : tj.bytes = 8 := by rfl) :
    JD X l b F [] D ((c, false) :: p) listed s F L [] := by
  have e : q.toNat = n := by omega
  have e2 : ∀ x, zer tj x = gI (fun _ => 0) x := fun x => zer_gI hz x
  refine dmks (ms := ms) (tj := tj) (q := q) eD (L0 := L0) ?_ hop hN hL hD hL0 (by omega) (by rw [e, hb8]; exact hq2) (by omega) hnd hc hms hlen hd0 hθ hi hki hj (by rw [hz, hz0]; rfl) (by omega)
  rw [e]
  simp only [e2, hz0, Nat.mul_one]
  exact hk

end
end Go.Proofs.Ytbeblgjibfoanaa.Am
namespace Go.Proofs.Ytbeblgjibfoanaa.Am
set_option linter.unusedSimpArgs false
set_option linter.unusedVariables false
open Go Go.RowKit
/-! Rules for walks that are written by a program: each step's lemma is named. -/
def spB : Option Nat → Bool
  | none => true
  | some 0 => true
  | _ => false
theorem addA_sp {b o : Nat} {sp : Option Nat} (h : spB sp = true) {m : Nat} : addA ⟨b, o, sp⟩ m = ⟨b, o + m, sp⟩ := by
  rcases sp with _ | _ | s
  · rfl
  · rfl
  · cases h
section
variable {F : Mem} {K : Own} {L : Slots}
theorem O {o : Op} {v : Value} (h : dOp Θ (evO L) o = some v := by rfl) : SD Try.prog F K L o v := SD.of hT h
theorem sdA {t t' : TypeId} {x y : Operand} {a b : Int} (hx : evO L x = some (.int .i64 a) := by rfl) (hy : evO L y = some (.int .i64 b) := by rfl) (h0 : -9223372036854775808 ≤ a + b := by first | omega | (dsimp only; omega)) (h1 : a + b < 9223372036854775808 := by first | omega | (dsimp only; omega)) : SD Try.prog F K L (.binOp .add t x y t') (.int .i64 (a + b)) := SD.addI hx hy h0 h1
theorem sdS {t t' : TypeId} {x y : Operand} {a b : Int} (hx : evO L x = some (.int .i64 a) := by rfl) (hy : evO L y = some (.int .i64 b) := by rfl) (h0 : -9223372036854775808 ≤ a - b := by first | omega | (dsimp only; omega)) (h1 : a - b < 9223372036854775808 := by first | omega | (dsimp only; omega)) : SD Try.prog F K L (.binOp .sub t x y t') (.int .i64 (a - b)) := SD.subI hx hy h0 h1
theorem sdM {t t' : TypeId} {x y : Operand} {a b : Int} (hx : evO L x = some (.int .i64 a) := by rfl) (hy : evO L y = some (.int .i64 b) := by rfl) (h0 : -9223372036854775808 ≤ a * b := by first | omega | (dsimp only; omega)) (h1 : a * b < 9223372036854775808 := by first | omega | (dsimp only; omega)) : SD Try.prog F K L (.binOp .mul t x y t') (.int .i64 (a * b)) := SD.mulI hx hy h0 h1
theorem sdN {t : TypeId} {x : Operand} {a : Int} (hx : evO L x = some (.int .i64 a) := by rfl) (h0 : -9223372036854775808 ≤ -a := by first | omega | (dsimp only; omega)) (h1 : -a < 9223372036854775808 := by first | omega | (dsimp only; omega)) : SD Try.prog F K L (.unOp .neg t x) (.int .i64 (-a)) := SD.negI hx h0 h1
theorem sdQ {t t' : TypeId} {x y : Operand} {a b : Int} (hx : evO L x = some (.int .i64 a) := by rfl) (hy : evO L y = some (.int .i64 b) := by rfl) (h0 : 0 ≤ a := by first | omega | (dsimp only; omega)) (h1 : a < 9223372036854775808 := by first | omega | (dsimp only; omega)) (h2 : 0 < b := by first | omega | (dsimp only; omega)) : SD Try.prog F K L (.binOp .quo t x y t') (.int .i64 (a / b)) := SD.quoI hx hy h0 h1 h2
theorem sdR {t t' : TypeId} {x y : Operand} {a b : Int} (hx : evO L x = some (.int .i64 a) := by rfl) (hy : evO L y = some (.int .i64 b) := by rfl) (h0 : 0 ≤ a := by first | omega | (dsimp only; omega)) (h2 : 0 < b := by first | omega | (dsimp only; omega)) : SD Try.prog F K L (.binOp .rem t x y t') (.int .i64 (a % b)) := SD.remI hx hy h0 h2
theorem sdSl {t t' : TypeId} {x y : Operand} {k j : IntKind} {a b : Int} (hx : evO L x = some (.int k a) := by rfl) (hy : evO L y = some (.int j b) := by rfl) (hb : 0 ≤ b := by first | omega | (dsimp only; omega)) : SD Try.prog F K L (.binOp .shl t x y t') (.int k (k.wrap (a * 2 ^ (min b.toNat k.bits)))) := SD.shlK hx hy hb
theorem sdSr {t t' : TypeId} {x y : Operand} {k j : IntKind} {a b : Int} (hx : evO L x = some (.int k a) := by rfl) (hy : evO L y = some (.int j b) := by rfl) (hb : 0 ≤ b := by first | omega | (dsimp only; omega)) : SD Try.prog F K L (.binOp .shr t x y t') (.int k (a.fdiv (2 ^ (min b.toNat k.bits)))) := SD.shrK hx hy hb
theorem sdX {t el : TypeId} {x i : Operand} {b off n c z : Nat} {sp : Option Nat} {k : IntKind} {q : Int} {ti tj : Ty} (ht : Θ.lookup t = some ti := by rfl) (hk : ti.k = .slice el := by rfl) (hj : Θ.lookup el = some tj := by rfl) (hz : tj.size = z := by rfl) (hx : evO L x = some (.slice (some ⟨b, off, sp⟩) n c) := by rfl) (hi : evO L i = some (.int k q) := by rfl) (h0 : 0 ≤ q := by first | omega | (dsimp only; omega)) (h1 : q < n := by first | omega | (dsimp only; omega)) (hs : spB sp = true := by rfl) : SD Try.prog F K L (.indexAddr t x i) (.pointer (some ⟨b, off + q.toNat * z, sp⟩)) := by
  have h := SD.idxS (F := F) (K := K) hT ht hk hj hx hi h0 h1
  rw [addA_sp hs, hz] at h
  exact h
theorem sdXA {t el : TypeId} {x i : Operand} {b off n z : Nat} {sp : Option Nat} {k : IntKind} {q : Int} {ti tj : Ty} (ht : Θ.lookup t = some ti := by rfl) (hk : ti.k = .array n el := by rfl) (hj : Θ.lookup el = some tj := by rfl) (hz : tj.size = z := by rfl) (hx : evO L x = some (.pointer (some ⟨b, off, sp⟩)) := by rfl) (hi : evO L i = some (.int k q) := by rfl) (h0 : 0 ≤ q := by first | omega | (dsimp only; omega)) (h1 : q < n := by first | omega | (dsimp only; omega)) (hs : spB sp = true := by rfl) : SD Try.prog F K L (.indexAddr t x i) (.pointer (some ⟨b, off + q.toNat * z, sp⟩)) := by
  have h := SD.idxA (F := F) (K := K) hT ht hk hj hx hi h0 h1
  rw [addA_sp hs, hz] at h
  exact h
theorem sdFA {s f : Nat} {x : Operand} {b off o : Nat} {sp : Option Nat} {j : Ty} (hf : fldOf Θ s f = some (o, j) := by rfl) (hj : (j.size == 0) = false := by rfl) (hx : evO L x = some (.pointer (some ⟨b, off, sp⟩)) := by rfl) (hs : spB sp = true := by rfl) : SD Try.prog F K L (.fieldAddr s x f) (.pointer (some ⟨b, off + o, sp⟩)) := by
  refine SD.of hT ?_
  have : ¬ j.size = 0 := by simpa using hj
  simp only [dOp, hf, hx, this, if_false, addA_sp hs]
theorem sdXs {t : TypeId} {x i : Operand} {s : ByteArray} {k : IntKind} {q : Int} {ti : Ty} (ht : Θ.lookup t = some ti := by rfl) (hk : ti.k = .string := by rfl) (hx : evO L x = some (.string s) := by rfl) (hi : evO L i = some (.int k q) := by rfl) (h0 : 0 ≤ q := by first | omega | (dsimp only; omega)) (h1 : q < s.size := by first | omega | (dsimp only; omega)) : SD Try.prog F K L (.index t x i) (.int .u8 (byteAt s q.toNat)) := SD.idxStr hT ht hk hx hi h0 h1
theorem sdL {t : TypeId} {x : Operand} {a : Addr} {ti : Ty} {v : Value} (ht : Θ.lookup t = some ti := by rfl) (hag : aggB ti.k = false := by rfl) (hx : evO L x = some (.pointer (some a)) := by rfl) (hv : rdA F K a = some v := by first | rfl | assumption) : SD Try.prog F K L (.load t x) v := SD.load hT ht hag hx hv
theorem sdW {t : TypeId} {x : Operand} {a : Addr} {ti : Ty} {v : Value} (ht : Θ.lookup t = some ti := by rfl) (hag : aggB ti.k = false := by rfl) (hx : evO L x = some (.pointer (some a)) := by rfl) (hv : rdA F K a = some v := by assumption) : SD Try.prog F K L (.load t x) v := SD.load hT ht hag hx hv
theorem sdLN {t : TypeId} {x : Operand} {a : Addr} {ti : Ty} {cs : List Value} (ht : Θ.lookup t = some ti := by rfl) (hag : aggB ti.k = true := by rfl) (hx : evO L x = some (.pointer (some a)) := by rfl) (hv : rdN F K a ti.size = some cs := by first | rfl | assumption) : SD Try.prog F K L (.load t x) (.agg ⟨cs⟩) := SD.loadN hT ht hag hx hv
theorem sdLG {t : TypeId} {x : Operand} {ti : Ty} {b off n : Nat} {G : Nat → Int} {r : Row} (ht : Θ.lookup t = some ti := by rfl) (hag : aggB ti.k = false := by rfl) (hx : evO L x = some (.pointer (some ⟨b, off, some 0⟩)) := by rfl) (hr : K.lookup b = some r := by rfl) (hcs : r.cs = gI G n := by rfl) (hlt : off < n := by first | omega | (dsimp only; omega)) : SD Try.prog F K L (.load t x) (.int .i64 (G off)) := SD.loadG hT ht hag hx hr hcs hlt
end
theorem LSub.app {a b L : Slots} (ha : LSub a L) (hb : LSub b L) : LSub (a ++ b) L := by
  induction a with
  | nil => exact hb
  | cons x a ih => exact ⟨ha.1, ih ha.2⟩
/-- pieces behind which less may be told -/
def wk : List SI → Bool
  | .code _ :: _ => true
  | .blk _ :: s => wk s
  | _ => false
section
variable {X : Cx} {F F0 : Mem} {L : Slots} {K K0 : Own} {s : List SI} {ops : Array Oper} {o : Oper} {l : List Oper} {b : Nat} {D : List Nat} {p : List (Nat × Bool)} {listed : Array Bool}
theorem J.weakS : ∀ {s : List SI} {L0 : Slots} {K0 : Own}, wk s = true → LSub L0 L → KSub K0 K → J X s F L0 K0 → J X s F L K
  | .code _ :: _, _, _, _, hL, hK, h => WP.weak hL hK h
  | .blk _ :: s, _, _, hs, hL, hK, h => J.weakS (s := s) hs hL hK h
  | .back _ :: _, _, _, hs, _, _, _ => by simp [wk] at hs
  | [], _, _, hs, _, _, _ => by simp [wk] at hs
theorem J.dropF {c : Code} {Y : List (Nat × Row)} (h : J X (.code c :: s) F L K) : J X (.code c :: s) (F.add Y) L K := fun ι a w hF hS => h ι a w hF hS.drop
theorem JL.dropF {Y : List (Nat × Row)} (h : JL X ops l s F L K) : JL X ops l s (F.add Y) L K := fun ι a w hF hS => h ι a w hF hS.drop
theorem J.loop1 {c : Code} {α : Type} (ok : α → Prop) (Lf : α → Slots) (kp : Slots) (Kf : α → Own) (kk : Own) (μ : α → Nat) (x0 : α) (hL : LSub (Lf x0) L) (hk : LSub kp L) (hK : KSub (Kf x0 ++ kk) K) (h0 : ok x0)
    (round : ∀ x L1 K1, L1 = Lf x ++ kp → K1 = Kf x ++ kk → ok x → J X (.code c :: .back (fun F' L' K' => ∃ x', μ x' < μ x ∧ ok x' ∧ F' = F ∧ LSub (Lf x') L' ∧ LSub kp L' ∧ KSub (Kf x' ++ kk) K') :: s) F L1 K1) : J X (.code (.loop c) :: s) F L K :=
  J.loop (α := α) (fun p F' L' K' => ok p ∧ F' = F ∧ LSub (Lf p ++ kp) L' ∧ KSub (Kf p ++ kk) K') (fun p => μ p) (x0) ⟨h0, rfl, hL.app hk, hK⟩ (by
    rintro x F' L' K' ⟨h1, rfl, h2, h3⟩
    refine WP.weak h2 h3 ?_
    intro ι a w hF hS
    refine wp_mono (round x _ _ rfl rfl h1 ι a w hF hS) fun e a' w' hl => ?_
    obtain ⟨ι1, F1, L1, K1, g1, g2, g3, g4⟩ := hl
    refine ⟨ι1, F1, L1, K1, g1, g2, g3, ?_⟩
    cases e with
    | normal =>
      obtain ⟨x', q1, q2, q3, q4, q5, q6⟩ := g4
      exact ⟨x', q1, q2, q3, q4.app q5, q6⟩
    | _ => exact g4)
theorem bk1 {α : Type} {ok : α → Prop} {Lf : α → Slots} {kp : Slots} {Kf : α → Own} {kk : Own} {μ : α → Nat} {m : Nat} (x' : α) (hL : LSub (Lf x') L) (hk : LSub kp L) (hK : KSub (Kf x' ++ kk) K) (hμ : μ x' < m) (hok : ok x') :
    J X (.back (fun F' L' K' => ∃ x', μ x' < m ∧ ok x' ∧ F' = F ∧ LSub (Lf x') L' ∧ LSub kp L' ∧ KSub (Kf x' ++ kk) K') :: s) F L K := ⟨x', hμ, hok, rfl, hL, hk, hK⟩
theorem J.cut1 {c : Code} {α : Type} (ok : α → Prop) (Lf : α → Slots) (kp : Slots) (Kf : α → Own) (kk : Own) (hk0 : LSub kp L) (hK0 : KSub kk K)
    (h : J X (.code c :: .back (fun F' L' K' => ∃ x', ok x' ∧ F' = F ∧ LSub (Lf x') L' ∧ LSub kp L' ∧ KSub (Kf x' ++ kk) K') :: s) F L K)
    (hn : ∀ x L1 K1, L1 = Lf x ++ kp → K1 = Kf x ++ kk → ok x → J X s F L1 K1) (hs : wk s = true := by rfl) : J X (.code c :: s) F L K :=
  J.cut _ h (by
    rintro F' L' K' ⟨x', h1, rfl, h2, h3, h4⟩
    exact J.weakS hs (h2.app h3) h4 (hn x' _ _ rfl rfl h1))
theorem ck1 {α : Type} {ok : α → Prop} {Lf : α → Slots} {kp : Slots} {Kf : α → Own} {kk : Own} (x' : α) (hL : LSub (Lf x') L) (hk : LSub kp L) (hK : KSub (Kf x' ++ kk) K) (hok : ok x') :
    J X (.back (fun F' L' K' => ∃ x', ok x' ∧ F' = F ∧ LSub (Lf x') L' ∧ LSub kp L' ∧ KSub (Kf x' ++ kk) K') :: s) F L K := ⟨x', hok, rfl, hL, hk, hK⟩
theorem J.loop2 {c : Code} {α β : Type} (ok : α → β → Prop) (Lf : α → β → Slots) (kp : Slots) (Kf : α → β → Own) (kk : Own) (μ : α → β → Nat) (x0 : α) (y0 : β) (hL : LSub (Lf x0 y0) L) (hk : LSub kp L) (hK : KSub (Kf x0 y0 ++ kk) K) (h0 : ok x0 y0)
    (round : ∀ x y L1 K1, L1 = Lf x y ++ kp → K1 = Kf x y ++ kk → ok x y → J X (.code c :: .back (fun F' L' K' => ∃ x' y', μ x' y' < μ x y ∧ ok x' y' ∧ F' = F ∧ LSub (Lf x' y') L' ∧ LSub kp L' ∧ KSub (Kf x' y' ++ kk) K') :: s) F L1 K1) : J X (.code (.loop c) :: s) F L K :=
  J.loop (α := α × β) (fun p F' L' K' => ok p.1 p.2 ∧ F' = F ∧ LSub (Lf p.1 p.2 ++ kp) L' ∧ KSub (Kf p.1 p.2 ++ kk) K') (fun p => μ p.1 p.2) (x0, y0) ⟨h0, rfl, hL.app hk, hK⟩ (by
    rintro ⟨x, y⟩ F' L' K' ⟨h1, rfl, h2, h3⟩
    refine WP.weak h2 h3 ?_
    intro ι a w hF hS
    refine wp_mono (round x y _ _ rfl rfl h1 ι a w hF hS) fun e a' w' hl => ?_
    obtain ⟨ι1, F1, L1, K1, g1, g2, g3, g4⟩ := hl
    refine ⟨ι1, F1, L1, K1, g1, g2, g3, ?_⟩
    cases e with
    | normal =>
      obtain ⟨x', y', q1, q2, q3, q4, q5, q6⟩ := g4
      exact ⟨⟨x', y'⟩, q1, q2, q3, q4.app q5, q6⟩
    | _ => exact g4)
theorem bk2 {α β : Type} {ok : α → β → Prop} {Lf : α → β → Slots} {kp : Slots} {Kf : α → β → Own} {kk : Own} {μ : α → β → Nat} {m : Nat} (x' : α) (y' : β) (hL : LSub (Lf x' y') L) (hk : LSub kp L) (hK : KSub (Kf x' y' ++ kk) K) (hμ : μ x' y' < m) (hok : ok x' y') :
    J X (.back (fun F' L' K' => ∃ x' y', μ x' y' < m ∧ ok x' y' ∧ F' = F ∧ LSub (Lf x' y') L' ∧ LSub kp L' ∧ KSub (Kf x' y' ++ kk) K') :: s) F L K := ⟨x', y', hμ, hok, rfl, hL, hk, hK⟩
theorem J.cut2 {c : Code} {α β : Type} (ok : α → β → Prop) (Lf : α → β → Slots) (kp : Slots) (Kf : α → β → Own) (kk : Own) (hk0 : LSub kp L) (hK0 : KSub kk K)
    (h : J X (.code c :: .back (fun F' L' K' => ∃ x' y', ok x' y' ∧ F' = F ∧ LSub (Lf x' y') L' ∧ LSub kp L' ∧ KSub (Kf x' y' ++ kk) K') :: s) F L K)
    (hn : ∀ x y L1 K1, L1 = Lf x y ++ kp → K1 = Kf x y ++ kk → ok x y → J X s F L1 K1) (hs : wk s = true := by rfl) : J X (.code c :: s) F L K :=
  J.cut _ h (by
    rintro F' L' K' ⟨x', y', h1, rfl, h2, h3, h4⟩
    exact J.weakS hs (h2.app h3) h4 (hn x' y' _ _ rfl rfl h1))
theorem ck2 {α β : Type} {ok : α → β → Prop} {Lf : α → β → Slots} {kp : Slots} {Kf : α → β → Own} {kk : Own} (x' : α) (y' : β) (hL : LSub (Lf x' y') L) (hk : LSub kp L) (hK : KSub (Kf x' y' ++ kk) K) (hok : ok x' y') :
    J X (.back (fun F' L' K' => ∃ x' y', ok x' y' ∧ F' = F ∧ LSub (Lf x' y') L' ∧ LSub kp L' ∧ KSub (Kf x' y' ++ kk) K') :: s) F L K := ⟨x', y', hok, rfl, hL, hk, hK⟩
theorem J.loop3 {c : Code} {α β γ : Type} (ok : α → β → γ → Prop) (Lf : α → β → γ → Slots) (kp : Slots) (Kf : α → β → γ → Own) (kk : Own) (μ : α → β → γ → Nat) (x0 : α) (y0 : β) (z0 : γ) (hL : LSub (Lf x0 y0 z0) L) (hk : LSub kp L) (hK : KSub (Kf x0 y0 z0 ++ kk) K) (h0 : ok x0 y0 z0)
    (round : ∀ x y z L1 K1, L1 = Lf x y z ++ kp → K1 = Kf x y z ++ kk → ok x y z → J X (.code c :: .back (fun F' L' K' => ∃ x' y' z', μ x' y' z' < μ x y z ∧ ok x' y' z' ∧ F' = F ∧ LSub (Lf x' y' z') L' ∧ LSub kp L' ∧ KSub (Kf x' y' z' ++ kk) K') :: s) F L1 K1) : J X (.code (.loop c) :: s) F L K :=
  J.loop (α := α × β × γ) (fun p F' L' K' => ok p.1 p.2.1 p.2.2 ∧ F' = F ∧ LSub (Lf p.1 p.2.1 p.2.2 ++ kp) L' ∧ KSub (Kf p.1 p.2.1 p.2.2 ++ kk) K') (fun p => μ p.1 p.2.1 p.2.2) (x0, y0, z0) ⟨h0, rfl, hL.app hk, hK⟩ (by
    rintro ⟨x, y, z⟩ F' L' K' ⟨h1, rfl, h2, h3⟩
    refine WP.weak h2 h3 ?_
    intro ι a w hF hS
    refine wp_mono (round x y z _ _ rfl rfl h1 ι a w hF hS) fun e a' w' hl => ?_
    obtain ⟨ι1, F1, L1, K1, g1, g2, g3, g4⟩ := hl
    refine ⟨ι1, F1, L1, K1, g1, g2, g3, ?_⟩
    cases e with
    | normal =>
      obtain ⟨x', y', z', q1, q2, q3, q4, q5, q6⟩ := g4
      exact ⟨⟨x', y', z'⟩, q1, q2, q3, q4.app q5, q6⟩
    | _ => exact g4)
theorem bk3 {α β γ : Type} {ok : α → β → γ → Prop} {Lf : α → β → γ → Slots} {kp : Slots} {Kf : α → β → γ → Own} {kk : Own} {μ : α → β → γ → Nat} {m : Nat} (x' : α) (y' : β) (z' : γ) (hL : LSub (Lf x' y' z') L) (hk : LSub kp L) (hK : KSub (Kf x' y' z' ++ kk) K) (hμ : μ x' y' z' < m) (hok : ok x' y' z') :
    J X (.back (fun F' L' K' => ∃ x' y' z', μ x' y' z' < m ∧ ok x' y' z' ∧ F' = F ∧ LSub (Lf x' y' z') L' ∧ LSub kp L' ∧ KSub (Kf x' y' z' ++ kk) K') :: s) F L K := ⟨x', y', z', hμ, hok, rfl, hL, hk, hK⟩
theorem J.cut3 {c : Code} {α β γ : Type} (ok : α → β → γ → Prop) (Lf : α → β → γ → Slots) (kp : Slots) (Kf : α → β → γ → Own) (kk : Own) (hk0 : LSub kp L) (hK0 : KSub kk K)
    (h : J X (.code c :: .back (fun F' L' K' => ∃ x' y' z', ok x' y' z' ∧ F' = F ∧ LSub (Lf x' y' z') L' ∧ LSub kp L' ∧ KSub (Kf x' y' z' ++ kk) K') :: s) F L K)
    (hn : ∀ x y z L1 K1, L1 = Lf x y z ++ kp → K1 = Kf x y z ++ kk → ok x y z → J X s F L1 K1) (hs : wk s = true := by rfl) : J X (.code c :: s) F L K :=
  J.cut _ h (by
    rintro F' L' K' ⟨x', y', z', h1, rfl, h2, h3, h4⟩
    exact J.weakS hs (h2.app h3) h4 (hn x' y' z' _ _ rfl rfl h1))
theorem ck3 {α β γ : Type} {ok : α → β → γ → Prop} {Lf : α → β → γ → Slots} {kp : Slots} {Kf : α → β → γ → Own} {kk : Own} (x' : α) (y' : β) (z' : γ) (hL : LSub (Lf x' y' z') L) (hk : LSub kp L) (hK : KSub (Kf x' y' z' ++ kk) K) (hok : ok x' y' z') :
    J X (.back (fun F' L' K' => ∃ x' y' z', ok x' y' z' ∧ F' = F ∧ LSub (Lf x' y' z') L' ∧ LSub kp L' ∧ KSub (Kf x' y' z' ++ kk) K') :: s) F L K := ⟨x', y', z', hok, rfl, hL, hk, hK⟩
theorem J.loop4 {c : Code} {α β γ δ : Type} (ok : α → β → γ → δ → Prop) (Lf : α → β → γ → δ → Slots) (kp : Slots) (Kf : α → β → γ → δ → Own) (kk : Own) (μ : α → β → γ → δ → Nat) (x0 : α) (y0 : β) (z0 : γ) (u0 : δ) (hL : LSub (Lf x0 y0 z0 u0) L) (hk : LSub kp L) (hK : KSub (Kf x0 y0 z0 u0 ++ kk) K) (h0 : ok x0 y0 z0 u0)
    (round : ∀ x y z u L1 K1, L1 = Lf x y z u ++ kp → K1 = Kf x y z u ++ kk → ok x y z u → J X (.code c :: .back (fun F' L' K' => ∃ x' y' z' u', μ x' y' z' u' < μ x y z u ∧ ok x' y' z' u' ∧ F' = F ∧ LSub (Lf x' y' z' u') L' ∧ LSub kp L' ∧ KSub (Kf x' y' z' u' ++ kk) K') :: s) F L1 K1) : J X (.code (.loop c) :: s) F L K :=
  J.loop (α := α × β × γ × δ) (fun p F' L' K' => ok p.1 p.2.1 p.2.2.1 p.2.2.2 ∧ F' = F ∧ LSub (Lf p.1 p.2.1 p.2.2.1 p.2.2.2 ++ kp) L' ∧ KSub (Kf p.1 p.2.1 p.2.2.1 p.2.2.2 ++ kk) K') (fun p => μ p.1 p.2.1 p.2.2.1 p.2.2.2) (x0, y0, z0, u0) ⟨h0, rfl, hL.app hk, hK⟩ (by
    rintro ⟨x, y, z, u⟩ F' L' K' ⟨h1, rfl, h2, h3⟩
    refine WP.weak h2 h3 ?_
    intro ι a w hF hS
    refine wp_mono (round x y z u _ _ rfl rfl h1 ι a w hF hS) fun e a' w' hl => ?_
    obtain ⟨ι1, F1, L1, K1, g1, g2, g3, g4⟩ := hl
    refine ⟨ι1, F1, L1, K1, g1, g2, g3, ?_⟩
    cases e with
    | normal =>
      obtain ⟨x', y', z', u', q1, q2, q3, q4, q5, q6⟩ := g4
      exact ⟨⟨x', y', z', u'⟩, q1, q2, q3, q4.app q5, q6⟩
    | _ => exact g4)
theorem bk4 {α β γ δ : Type} {ok : α → β → γ → δ → Prop} {Lf : α → β → γ → δ → Slots} {kp : Slots} {Kf : α → β → γ → δ → Own} {kk : Own} {μ : α → β → γ → δ → Nat} {m : Nat} (x' : α) (y' : β) (z' : γ) (u' : δ) (hL : LSub (Lf x' y' z' u') L) (hk : LSub kp L) (hK : KSub (Kf x' y' z' u' ++ kk) K) (hμ : μ x' y' z' u' < m) (hok : ok x' y' z' u') :
    J X (.back (fun F' L' K' => ∃ x' y' z' u', μ x' y' z' u' < m ∧ ok x' y' z' u' ∧ F' = F ∧ LSub (Lf x' y' z' u') L' ∧ LSub kp L' ∧ KSub (Kf x' y' z' u' ++ kk) K') :: s) F L K := ⟨x', y', z', u', hμ, hok, rfl, hL, hk, hK⟩
theorem J.cut4 {c : Code} {α β γ δ : Type} (ok : α → β → γ → δ → Prop) (Lf : α → β → γ → δ → Slots) (kp : Slots) (Kf : α → β → γ → δ → Own) (kk : Own) (hk0 : LSub kp L) (hK0 : KSub kk K)
    (h : J X (.code c :: .back (fun F' L' K' => ∃ x' y' z' u', ok x' y' z' u' ∧ F' = F ∧ LSub (Lf x' y' z' u') L' ∧ LSub kp L' ∧ KSub (Kf x' y' z' u' ++ kk) K') :: s) F L K)
    (hn : ∀ x y z u L1 K1, L1 = Lf x y z u ++ kp → K1 = Kf x y z u ++ kk → ok x y z u → J X s F L1 K1) (hs : wk s = true := by rfl) : J X (.code c :: s) F L K :=
  J.cut _ h (by
    rintro F' L' K' ⟨x', y', z', u', h1, rfl, h2, h3, h4⟩
    exact J.weakS hs (h2.app h3) h4 (hn x' y' z' u' _ _ rfl rfl h1))
theorem ck4 {α β γ δ : Type} {ok : α → β → γ → δ → Prop} {Lf : α → β → γ → δ → Slots} {kp : Slots} {Kf : α → β → γ → δ → Own} {kk : Own} (x' : α) (y' : β) (z' : γ) (u' : δ) (hL : LSub (Lf x' y' z' u') L) (hk : LSub kp L) (hK : KSub (Kf x' y' z' u' ++ kk) K) (hok : ok x' y' z' u') :
    J X (.back (fun F' L' K' => ∃ x' y' z' u', ok x' y' z' u' ∧ F' = F ∧ LSub (Lf x' y' z' u') L' ∧ LSub kp L' ∧ KSub (Kf x' y' z' u' ++ kk) K') :: s) F L K := ⟨x', y', z', u', hok, rfl, hL, hk, hK⟩
theorem J.loop5 {c : Code} {α β γ δ ε : Type} (ok : α → β → γ → δ → ε → Prop) (Lf : α → β → γ → δ → ε → Slots) (kp : Slots) (Kf : α → β → γ → δ → ε → Own) (kk : Own) (μ : α → β → γ → δ → ε → Nat) (x0 : α) (y0 : β) (z0 : γ) (u0 : δ) (t0 : ε) (hL : LSub (Lf x0 y0 z0 u0 t0) L) (hk : LSub kp L) (hK : KSub (Kf x0 y0 z0 u0 t0 ++ kk) K) (h0 : ok x0 y0 z0 u0 t0)
    (round : ∀ x y z u t L1 K1, L1 = Lf x y z u t ++ kp → K1 = Kf x y z u t ++ kk → ok x y z u t → J X (.code c :: .back (fun F' L' K' => ∃ x' y' z' u' t', μ x' y' z' u' t' < μ x y z u t ∧ ok x' y' z' u' t' ∧ F' = F ∧ LSub (Lf x' y' z' u' t') L' ∧ LSub kp L' ∧ KSub (Kf x' y' z' u' t' ++ kk) K') :: s) F L1 K1) : J X (.code (.loop c) :: s) F L K :=
  J.loop (α := α × β × γ × δ × ε) (fun p F' L' K' => ok p.1 p.2.1 p.2.2.1 p.2.2.2.1 p.2.2.2.2 ∧ F' = F ∧ LSub (Lf p.1 p.2.1 p.2.2.1 p.2.2.2.1 p.2.2.2.2 ++ kp) L' ∧ KSub (Kf p.1 p.2.1 p.2.2.1 p.2.2.2.1 p.2.2.2.2 ++ kk) K') (fun p => μ p.1 p.2.1 p.2.2.1 p.2.2.2.1 p.2.2.2.2) (x0, y0, z0, u0, t0) ⟨h0, rfl, hL.app hk, hK⟩ (by
    rintro ⟨x, y, z, u, t⟩ F' L' K' ⟨h1, rfl, h2, h3⟩
    refine WP.weak h2 h3 ?_
    intro ι a w hF hS
    refine wp_mono (round x y z u t _ _ rfl rfl h1 ι a w hF hS) fun e a' w' hl => ?_
    obtain ⟨ι1, F1, L1, K1, g1, g2, g3, g4⟩ := hl
    refine ⟨ι1, F1, L1, K1, g1, g2, g3, ?_⟩
    cases e with
    | normal =>
      obtain ⟨x', y', z', u', t', q1, q2, q3, q4, q5, q6⟩ := g4
      exact ⟨⟨x', y', z', u', t'⟩, q1, q2, q3, q4.app q5, q6⟩
    | _ => exact g4)
theorem bk5 {α β γ δ ε : Type} {ok : α → β → γ → δ → ε → Prop} {Lf : α → β → γ → δ → ε → Slots} {kp : Slots} {Kf : α → β → γ → δ → ε → Own} {kk : Own} {μ : α → β → γ → δ → ε → Nat} {m : Nat} (x' : α) (y' : β) (z' : γ) (u' : δ) (t' : ε) (hL : LSub (Lf x' y' z' u' t') L) (hk : LSub kp L) (hK : KSub (Kf x' y' z' u' t' ++ kk) K) (hμ : μ x' y' z' u' t' < m) (hok : ok x' y' z' u' t') :
    J X (.back (fun F' L' K' => ∃ x' y' z' u' t', μ x' y' z' u' t' < m ∧ ok x' y' z' u' t' ∧ F' = F ∧ LSub (Lf x' y' z' u' t') L' ∧ LSub kp L' ∧ KSub (Kf x' y' z' u' t' ++ kk) K') :: s) F L K := ⟨x', y', z', u', t', hμ, hok, rfl, hL, hk, hK⟩
theorem J.cut5 {c : Code} {α β γ δ ε : Type} (ok : α → β → γ → δ → ε → Prop) (Lf : α → β → γ → δ → ε → Slots) (kp : Slots) (Kf : α → β → γ → δ → ε → Own) (kk : Own) (hk0 : LSub kp L) (hK0 : KSub kk K)
    (h : J X (.code c :: .back (fun F' L' K' => ∃ x' y' z' u' t', ok x' y' z' u' t' ∧ F' = F ∧ LSub (Lf x' y' z' u' t') L' ∧ LSub kp L' ∧ KSub (Kf x' y' z' u' t' ++ kk) K') :: s) F L K)
    (hn : ∀ x y z u t L1 K1, L1 = Lf x y z u t ++ kp → K1 = Kf x y z u t ++ kk → ok x y z u t → J X s F L1 K1) (hs : wk s = true := by rfl) : J X (.code c :: s) F L K :=
  J.cut _ h (by
    rintro F' L' K' ⟨x', y', z', u', t', h1, rfl, h2, h3, h4⟩
    exact J.weakS hs (h2.app h3) h4 (hn x' y' z' u' t' _ _ rfl rfl h1))
theorem ck5 {α β γ δ ε : Type} {ok : α → β → γ → δ → ε → Prop} {Lf : α → β → γ → δ → ε → Slots} {kp : Slots} {Kf : α → β → γ → δ → ε → Own} {kk : Own} (x' : α) (y' : β) (z' : γ) (u' : δ) (t' : ε) (hL : LSub (Lf x' y' z' u' t') L) (hk : LSub kp L) (hK : KSub (Kf x' y' z' u' t' ++ kk) K) (hok : ok x' y' z' u' t') :
    J X (.back (fun F' L' K' => ∃ x' y' z' u' t', ok x' y' z' u' t' ∧ F' = F ∧ LSub (Lf x' y' z' u' t') L' ∧ LSub kp L' ∧ KSub (Kf x' y' z' u' t' ++ kk) K') :: s) F L K := ⟨x', y', z', u', t', hok, rfl, hL, hk, hK⟩
/-! Calls of functions that leave rows. -/
theorem clC {f d : Nat} {args : Array Operand} {ts : Array TypeId} {vs : List Value} {Q : Value → List (Nat × Row) → Prop}
    (hk : ∀ v Y, Q v Y → (∀ κ, rV κ v = v) → (∀ x ∈ Y, ∀ u ∈ x.2.cs, plain1 u = true) → New F Y → JL X ops l s (F.add Y) ((d, v) :: L) K)
    (hg : o.guard = none := by rfl) (ho : o.op = .call ⟨.value (.func f), args, ts⟩ := by rfl) (hd : o.dst = some d := by rfl) (hN : d < X.N := by exact Nat.le_of_ble_eq_true rfl) (hargs : mapE (evO L) args.toList = some vs := by rfl) (hfn : fnOk X.P f = true := by kernel_rfl) (h : ∀ ι, Val ι K F → F.le (push ι K F) → C X.P f (vs.map (rV ι)) (push ι K F) Q) : JL X ops (o :: l) s F L K :=
  JL.callC hg ho hd hN hargs hfn h hk
theorem clgC {f d j e : Nat} {want : Bool} {args : Array Operand} {ts : Array TypeId} {vs : List Value} {Q : Value → List (Nat × Row) → Prop}
    (hk : ∀ v Y, Q v Y → (∀ κ, rV κ v = v) → (∀ x ∈ Y, ∀ u ∈ x.2.cs, plain1 u = true) → New F Y → JL X ops l s (F.add Y) ((d, v) :: L) K)
    (hg : o.guard = some (j, want) := by rfl) (hj : (ops[j]?).bind (·.dst) = some e := by rfl) (hb : L.lookup e = some (.bool want) := by rfl) (ho : o.op = .call ⟨.value (.func f), args, ts⟩ := by rfl) (hd : o.dst = some d := by rfl) (hN : d < X.N := by exact Nat.le_of_ble_eq_true rfl) (hargs : mapE (evO L) args.toList = some vs := by rfl) (hfn : fnOk X.P f = true := by kernel_rfl) (h : ∀ ι, Val ι K F → F.le (push ι K F) → C X.P f (vs.map (rV ι)) (push ι K F) Q) : JL X ops (o :: l) s F L K :=
  JL.callCG hg hj hb ho hd hN hargs hfn h hk
theorem dclC {i f d : Nat} {o : Oper} {args : Array Operand} {ts : Array TypeId} {vs : List Value} {Q : Value → List (Nat × Row) → Prop}
    (hk : ∀ v Y, Q v Y → (∀ κ, rV κ v = v) → (∀ x ∈ Y, ∀ u ∈ x.2.cs, plain1 u = true) → New F Y → JD X l b F0 K0 D p (listed.setIfInBounds i true) s (F.add Y) ((d, v) :: L) K)
    (hkp : Kept b F0 K0 (listed.setIfInBounds i true) F K := by first | exact Kept.same | exact Kept.all) (ho : l[i]? = some o := by rfl) (hg : o.guard = none := by rfl) (hop : o.op = .call ⟨.value (.func f), args, ts⟩ := by rfl) (hd : o.dst = some d := by rfl) (hN : d < X.N := by exact Nat.le_of_ble_eq_true rfl) (hargs : mapE (evO L) args.toList = some vs := by rfl) (hfn : fnOk X.P f = true := by kernel_rfl) (hi9 : i < 5000 := by exact Nat.le_of_ble_eq_true rfl) (h : ∀ ι, Val ι K F → F.le (push ι K F) → C X.P f (vs.map (rV ι)) (push ι K F) Q) : JD X l b F0 K0 D ((i, false) :: p) listed s F L K :=
  JD.callC_ hi9 ho (fun ι a _ => by simp [Region.wanted, hg]) hop hd hN hargs hfn hkp h hk
theorem Kept.k0 (h : KSub K0 K := by repeat' first | exact trivial | refine And.intro rfl ?_) : Kept b F K0 listed F K := .inr ⟨h, [], rfl⟩
theorem Kept.kY {Y : List (Nat × Row)} (h : KSub K0 K := by repeat' first | exact trivial | refine And.intro rfl ?_) : Kept b F K0 listed (F.add Y) K := .inr ⟨h, Y, rfl⟩
theorem Kept.addF {Y : List (Nat × Row)} (hn : (K0.map Prod.fst).Nodup := by first | exact List.nodup_nil | (simp; done)) : Kept b F0 K0 listed (F0.add Y) K0 := .inr ⟨KSub.refl hn, Y, rfl⟩
end
/-- rows that can be read -/
def Rd (G : Mem) (Y : List (Nat × Row)) : Prop := ∀ x ∈ Y, ∀ (o : Nat) (u : Value), x.2.cs[o]? = some u → look G ⟨x.1, o, none⟩ = some u
theorem Rd.gI {G : Mem} {Y : List (Nat × Row)} (h : Rd G Y) {b n i : Nat} {ι : Nat → Nat} {W : Nat → Int} (hm : (b, (rI W n).r ι) ∈ Y) (hi : i < n) : look G ⟨b, i, none⟩ = some (.int .i64 (W i)) := by
  refine h _ hm i _ ?_
  simp only [Row.r, rI, List.getElem?_map, gI_get hi, Option.map_some]
  rfl
section
variable {F : Mem} {L : Slots} {K : Own} {s : List SI}
/-- the end: all of the call's own rows are left -/
theorem outX.all {Q : Value → List (Nat × Row) → Prop} {v : Value} (h : ∀ ι, Val ι K F → Q (rV ι v) (K.map fun x => (ι x.1, x.2.r ι))) : outX F Q v F K :=
  ⟨[], rfl, fun x hx => by simp at hx, fun ι hv => ⟨K.map fun x => (ι x.1, x.2.r ι), fun x hx => by simpa using hx, by
    have := (List.nodup_append.1 hv.nodup).1
    simpa [List.map_map, Function.comp_def] using this, h ι hv⟩⟩
theorem rtX {Θ : Tab} {rs : List ResultVar} {Q : Value → List (Nat × Row) → Prop} {v : Value} {P : Program} {N : Nat} {D : List Nat} (h : ∀ ι, Val ι K F → Q (rV ι v) (K.map fun x => (ι x.1, x.2.r ι))) (hr : resV Θ F L K rs = some v := by rfl) : J ⟨P, N, D, retR Θ rs (outX F Q)⟩ (.code .ret :: s) F L K := J.ret ⟨v, hr, outX.all h⟩
theorem reX {Θ : Tab} {rs : List ResultVar} {Q : Value → List (Nat × Row) → Prop} {v : Value} {P : Program} {N : Nat} {D : List Nat} (h : ∀ ι, Val ι K F → Q (rV ι v) (K.map fun x => (ι x.1, x.2.r ι))) (hr : resV Θ F L K rs = some v := by rfl) : J ⟨P, N, D, retR Θ rs (outX F Q)⟩ [] F L K := ⟨v, hr, outX.all h⟩
end
theorem sem_goto {X : Cx} (h : ∀ c F L K, ¬ X.R (.goto c) F L K) {c : Nat} {F : Mem} {L : Slots} {K : Own} : ∀ {s : List SI}, ¬ sem X s (.goto c) F L K
  | [] => h c F L K
  | .code _ :: s => sem_goto h (s := s)
  | .blk _ :: s => sem_goto h (s := s)
  | .back _ :: s => sem_goto h (s := s)
/-- a scope of labels that nothing jumps to -/
theorem sc {X : Cx} {F : Mem} {L : Slots} {K : Own} {s : List SI} {c : Code} (h : J X (.code c :: s) F L K) (hR : ∀ c F L K, ¬ X.R (.goto c) F L K := by intro _ _ _ _ h; exact h) : J X (.code (.scope c) :: s) F L K := by
  intro ι a w hF hS
  refine wp_scope_straight (wp_mono (h ι a w hF hS) fun e a' w' hl => ?_)
  cases e with
  | goto l =>
    obtain ⟨ι1, F1, L1, K1, h1, h2, h3, h4⟩ := hl
    exact absurd h4 (sem_goto hR)
  | _ => exact hl
end Go.Proofs.Ytbeblgjibfoanaa.Am
namespace Go.Proofs.Ytbeblgjibfoanaa.Am
set_option linter.unusedSimpArgs false
set_option linter.unusedVariables false
open Go Go.RowKit
/-! append, in a walk: the result's row keeps the tag that its elder had. -/
theorem rowcK {F : Mem} {ι : Nat → Nat} {K : Own} {w : World} {t u b : Nat} {r : Row} (h : St F ι ((t, r) :: K) w) (hu : ntK u K = true) {x : Nat × Row} (hx : x ∈ K) : x.1 ≠ u ∧ x.2.c (upd ι u b) = x.2.c ι := by
  have := List.all_eq_true.1 hu x hx
  simp only [Bool.and_eq_true, Bool.or_eq_true, bne_iff_ne, ne_eq] at this
  refine ⟨this.1, ?_⟩
  rcases this.2 with hf | hf
  · exact Row.c_flat _ _ ((h.own x (List.mem_cons_of_mem _ hx)).2.2 hf)
  · exact Row.c_nt (fun v hv => upd_ne ι hv) hf
theorem LSub.cons {Lk L : Slots} {d : Nat} {v : Value} (h : LSub Lk L) (hd : (Lk.all fun x => x.1 != d) = true) : LSub ((d, v) :: Lk) ((d, v) :: L) := by
  refine ⟨by simp [List.lookup_cons], LSub.of_all fun x hx => ?_⟩
  have h1 := List.all_eq_true.1 hd x hx
  have h2 : (x.1 == d) = false := by simpa [bne] using h1
  rw [List.lookup_cons, h2]
  exact h.all_of x hx
theorem KSub.cons {Kk K : Own} {u : Nat} {r : Row} (h : KSub Kk K) (hd : (Kk.all fun x => x.1 != u) = true) : KSub ((u, r) :: Kk) ((u, r) :: K) := by
  refine ⟨by simp [List.lookup_cons], by simpa using hd, KSub.of_all h.tags fun x hx => ?_⟩
  have h1 := List.all_eq_true.1 hd x hx
  have h2 : (x.1 == u) = false := by simpa [bne] using h1
  rw [List.lookup_cons, h2]
  exact h.mem x hx
theorem lookup_del {K : Own} {a u : Nat} (h : a ≠ u) : (delK u K).lookup a = K.lookup a := by
  induction K with
  | nil => rfl
  | cons x K ih =>
    obtain ⟨b, r⟩ := x
    unfold delK at ih ⊢
    by_cases hb : b = u
    · subst hb
      have h2 : (a == b) = false := by simpa using h
      rw [List.filter_cons_of_neg (by simp), List.lookup_cons, h2]
      exact ih
    · rw [List.filter_cons_of_pos (by simpa using hb), List.lookup_cons, List.lookup_cons, ih]
theorem KSub.del {Kk K : Own} {u : Nat} (h : KSub Kk K) (hd : (Kk.all fun x => x.1 != u) = true) : KSub Kk (delK u K) := by
  refine KSub.of_all h.tags fun x hx => ?_
  have h1 := List.all_eq_true.1 hd x hx
  rw [lookup_del (by simpa using h1)]
  exact h.mem x hx
theorem ntK_ne {t : Nat} {K : Own} (h : ntK t K = true) : (K.all fun x => x.1 != t) = true := by
  rw [List.all_eq_true]
  intro x hx
  have := List.all_eq_true.1 h x hx
  simp only [Bool.and_eq_true] at this
  exact this.1
theorem St.retag {F : Mem} {ι : Nat → Nat} {K : Own} {w : World} {t u : Nat} {r : Row} (h : St F ι ((t, r) :: K) w) (hu : ntK u K = true) (hr : (r.flat || r.cs.all (nt1 u)) = true) : St F (upd ι u (ι t)) ((u, r) :: K) w := by
  have hmap : (K.map fun x => upd ι u (ι t) x.1) = K.map fun x => ι x.1 := List.map_congr_left fun x hx => upd_ne ι (rowcK h hu hx (b := 0)).1
  have hrow : r.c (upd ι u (ι t)) = r.c ι := by
    simp only [Bool.or_eq_true] at hr
    rcases hr with hf | hf
    · exact Row.c_flat _ _ ((h.own _ List.mem_cons_self).2.2 hf)
    · exact Row.c_nt (fun v hv => upd_ne ι hv) hf
  refine ⟨h.below, ?_, fun x hx => ?_, h.ext⟩
  · have := h.nodup
    simpa only [List.map_cons, hmap, upd_eq] using this
  · rcases List.mem_cons.1 hx with rfl | hx
    · have := h.own _ List.mem_cons_self
      simp only [upd_eq, hrow]
      exact this
    · obtain ⟨h1, h2⟩ := rowcK h hu hx (b := ι t)
      have := h.own x (List.mem_cons_of_mem _ hx)
      rw [upd_ne ι h1, h2]; exact this
section
variable {X : Cx} {F : Mem} {L : Slots} {K : Own} {s : List SI} {ops : Array Oper} {o : Oper} {l : List Oper}
theorem JL.retag {d t u n c : Nat} {r : Row} {Lk : Slots} {Kk : Own} (hL : ntL u Lk = true) (hK : ntK u Kk = true) (hr : (r.flat || r.cs.all (nt1 u)) = true) (hD : X.D.contains u = false)
    (h : JL X ops l s F ((d, .slice (some ⟨u, 0, some 0⟩) n c) :: Lk) ((u, r) :: Kk)) : JL X ops l s F ((d, .slice (some ⟨t, 0, some 0⟩) n c) :: Lk) ((t, r) :: Kk) := by
  intro ι a w hF hS
  have hagree : ∀ v ∈ X.D, upd ι u (ι t) v = ι v := fun v hv => upd_ne ι (fun e => by subst e; simp at hD; exact hD hv)
  refine JL.tr hagree (h (upd ι u (ι t)) a w ?_ (hS.retag hK hr))
  refine ⟨hF.size, hF.defers, fun s v hv => ?_⟩
  rw [List.lookup_cons] at hv
  split at hv
  · rename_i e
    have e1 : s = d := by simpa using e
    subst e1
    simp only [Option.some.injEq] at hv
    subst hv
    have := hF.slot s (.slice (some ⟨t, 0, some 0⟩) n c) (by simp [List.lookup_cons])
    simpa [upd_eq] using this
  · rename_i e
    have h1 := hF.slot s v (by rw [List.lookup_cons, e]; exact hv)
    rw [cV_nt (fun v hv => upd_ne ι hv) (List.all_eq_true.1 hL _ (lookup_mem hv))]
    exact h1
/-- a literal slice -/
theorem sl {Θ : Tab} {ty el : TypeId} {parts : Array (Nat × Operand)} {d n : Nat} {ti tj : Ty} {ps : List (Nat × List Value)} {cs : List Value} (hk : JL X ops l s F ((d, .slice (some ⟨d, 0, some 0⟩) n n) :: L) ((d, { elem := el, cs := cs, room := n * tj.size, flat := false }) :: K))
    (hg : o.guard = none := by rfl) (ho : o.op = .buildSlice ty n parts := by rfl) (hd : o.dst = some d := by rfl) (hN : d < X.N := by exact Nat.le_of_ble_eq_true rfl) (hθ : tabOk X.P Θ = true := by exact hT) (hi : Θ.lookup ty = some ti := by rfl) (hki : ti.k = .slice el := by rfl) (hj : Θ.lookup el = some tj := by rfl)
    (hp : partsL (evO L) parts.toList = some ps := by rfl) (h1 : ps.all (fun q => q.2.all (·.oneCell')) = true := by rfl) (hf : fillL (fun i => some (i * tj.size, tj.size)) (zer tj n) ps = some cs := by rfl) (hs : n * tj.size ≤ 16777216 := by exact Nat.le_of_ble_eq_true rfl) (hz0 : tj.zero.length = tj.size := by rfl) (hz1 : 0 < tj.size := by exact Nat.le_of_ble_eq_true rfl)
    (hL : ntL d L = true := by rfl) (hK : ntK d K = true := by rfl) (hD : X.D.contains d = false := by rfl) : JL X ops (o :: l) s F L K :=
  JL.step hg (Go1.slit hθ ho hd hN hi hki hj hp h1 hf hs hz0 hz1 hL hK hD hk)
/-- append to nothing -/
theorem apN {Θ : Tab} {ty ty' el : TypeId} {sx x : Operand} {d m : Nat} {ti ti' tj : Ty} {xv : Value} {news : List Value} (u : Nat) (fl : Bool) (Lk : Slots) (Kk : Own)
    (hk : ∀ cap, m ≤ cap → cap ≤ 9223372036854775807 → JL X ops l s F ((d, .slice (some ⟨u, 0, some 0⟩) m cap) :: Lk) ((u, { elem := el, cs := news, room := cap * tj.size, flat := fl }) :: Kk))
    (hg : o.guard = none := by rfl) (ho : o.op = .call ⟨.builtin .append, #[sx, x], #[ty, ty']⟩ := by rfl) (hd : o.dst = some d := by rfl) (hN : d < X.N := by exact Nat.le_of_ble_eq_true rfl) (hθ : tabOk X.P Θ = true := by exact hT)
    (hi : Θ.lookup ty = some ti := by rfl) (hki : ti.k = .slice el := by rfl) (hi' : Θ.lookup ty' = some ti' := by rfl) (hk' : slB ti'.k = true := by rfl) (hj : Θ.lookup el = some tj := by rfl) (hz0 : tj.zero.length = tj.size := by rfl) (hz1 : 0 < tj.size := by exact Nat.le_of_ble_eq_true rfl)
    (hs : evO L sx = some (.slice none 0 0) := by rfl) (hx : evO L x = some xv := by rfl) (happ : App X.P F K tj.size xv m news := by exact App.slice rfl (by simp [Value.oneCell']; done) rfl) (hLk : LSub Lk L := by repeat' first | exact trivial | refine And.intro rfl ?_) (hKk : KSub Kk K := by repeat' first | exact trivial | refine And.intro rfl ?_)
    (hm : 0 < m := by first | exact Nat.le_of_ble_eq_true rfl | omega) (h63 : m ≤ 9223372036854775807 := by first | exact Nat.le_of_ble_eq_true rfl | omega) (hby : m * tj.bytes ≤ 140737488355328 := by first | exact Nat.le_of_ble_eq_true rfl | (dsimp only; omega))
    (hflat : fl = true → news.all plain1 = true := by intro _; rfl) (hL : ntL u L = true := by rfl) (hK : ntK u K = true := by rfl) (hnn : news.all (nt1 u) = true := by rfl) (hD : X.D.contains u = false := by rfl) (hdk : (Lk.all fun x => x.1 != d) = true := by rfl) (hKu : ntK u Kk = true := by rfl) : JL X ops (o :: l) s F L K := by
  refine JL.step hg (Go1.append (t := u) (n := 0) (c := 0) (olds := []) (K0 := K) (fz := false) (fl := fl) hθ ho hd hN hi hki hi' hk' hj hz0 hz1 hs hx happ hm (.inl ⟨rfl, rfl, rfl, rfl, rfl⟩) (by simp) hflat (by omega) (by simpa using hby) hL hK hnn hD ?_)
  intro cap h1 h2
  simp only [Nat.zero_add, List.nil_append] at h1 ⊢
  exact JL.weak (hLk.cons hdk) (hKk.cons (ntK_ne hKu)) (hk cap h1 h2)
/-- append to one of the call's own rows, of the tag u; t is a tag that nothing has -/
theorem apO {Θ : Tab} {ty ty' el : TypeId} {sx x : Operand} {d m n c : Nat} {ti ti' tj : Ty} {xv : Value} {news : List Value} {r : Row} (t u : Nat) (Lk : Slots) (Kk : Own)
    (hk : ∀ cap, n + m ≤ cap → cap ≤ 9223372036854775807 → JL X ops l s F ((d, .slice (some ⟨u, 0, some 0⟩) (n + m) cap) :: Lk) ((u, { elem := el, cs := r.cs ++ news, room := cap * tj.size, fz := r.fz, flat := r.flat }) :: Kk))
    (hg : o.guard = none := by rfl) (ho : o.op = .call ⟨.builtin .append, #[sx, x], #[ty, ty']⟩ := by rfl) (hd : o.dst = some d := by rfl) (hN : d < X.N := by exact Nat.le_of_ble_eq_true rfl) (hθ : tabOk X.P Θ = true := by exact hT)
    (hi : Θ.lookup ty = some ti := by rfl) (hki : ti.k = .slice el := by rfl) (hi' : Θ.lookup ty' = some ti' := by rfl) (hk' : slB ti'.k = true := by rfl) (hj : Θ.lookup el = some tj := by rfl) (hz0 : tj.zero.length = tj.size := by rfl) (hz1 : 0 < tj.size := by exact Nat.le_of_ble_eq_true rfl)
    (hs : evO L sx = some (.slice (some ⟨u, 0, some 0⟩) n c) := by rfl) (hx : evO L x = some xv := by rfl) (hr : K.lookup u = some r := by rfl) (happ : App X.P F K tj.size xv m news := by exact App.slice rfl (by simp [Value.oneCell']; done) rfl) (hLk : LSub Lk L := by repeat' first | exact trivial | refine And.intro rfl ?_) (hKk : KSub Kk K := by repeat' first | exact trivial | refine And.intro rfl ?_)
    (hroom : r.room = c * tj.size := by rfl) (hel : r.elem = el := by rfl) (hol : r.cs.length = n * tj.size := by first | rfl | (dsimp only; omega) | (simp; done) | (simp; omega)) (hnc : n ≤ c := by omega) (hcm : c ≤ 9223372036854775807 := by omega)
    (hm : 0 < m := by first | exact Nat.le_of_ble_eq_true rfl | omega) (h63 : n + m ≤ 9223372036854775807 := by omega) (hby : (n + m) * tj.bytes ≤ 140737488355328 := by (dsimp only; omega))
    (hflat : r.flat = true → news.all plain1 = true := by intro _; rfl) (hL : ntL t L = true := by rfl) (hK : ntK t K = true := by rfl) (hnn : news.all (nt1 t) = true := by rfl) (hD : X.D.contains t = false := by rfl) (hDu : X.D.contains u = false := by rfl) (hdk : (Lk.all fun x => x.1 != d) = true := by rfl) (hKu : ntK u Kk = true := by rfl) (hKt : ntK t Kk = true := by rfl) (hLu : ntL u Lk = true := by rfl)
    (hru : (r.flat || (r.cs ++ news).all (nt1 u)) = true := by rfl) : JL X ops (o :: l) s F L K := by
  refine JL.step hg (Go1.append (t := t) (n := n) (c := c) (olds := r.cs) (K0 := delK u K) (fz := r.fz) (fl := r.flat) hθ ho hd hN hi hki hi' hk' hj hz0 hz1 hs hx happ hm (.inr ⟨u, r, rfl, hr, rfl, hroom, hel, hnc, hcm, rfl, id, id⟩) hol hflat h63 hby hL hK hnn hD ?_)
  intro cap h1 h2
  exact JL.weak (hLk.cons hdk) ((hKk.del (ntK_ne hKu)).cons (ntK_ne hKt)) (JL.retag hLu hKu hru hDu (hk cap h1 h2))
end
/-! Lists that are built by append: nothing yet, or a row of one's own. -/
def apV (t : Nat) (o : Option Nat) (n : Nat) : Value := match o with
  | none => .slice none 0 0
  | some c => .slice (some ⟨t, 0, some 0⟩) n c
def apR (t : Nat) (el : TypeId) (sz : Nat) (fl : Bool) (o : Option Nat) (cs : List Value) : Own := match o with
  | none => []
  | some c => [(t, { elem := el, cs := cs, room := c * sz, fz := false, flat := fl })]
/-- what is known of such a list's room -/
def apB (o : Option Nat) (n : Nat) : Prop := match o with
  | none => n = 0
  | some c => n ≤ c ∧ c ≤ 9223372036854775807
def ivs (xs : List Int) : List Value := xs.map (.int .i64 ·)
theorem ivs_length (xs : List Int) : (ivs xs).length = xs.length := by simp [ivs]
theorem ivs_append (xs ys : List Int) : ivs (xs ++ ys) = ivs xs ++ ivs ys := by simp [ivs]
theorem ivs_c (ι : Nat → Nat) (xs : List Int) : (ivs xs).map (c1 ι) = ivs xs := by
  unfold ivs
  rw [List.map_map]
  exact List.map_congr_left fun b _ => rfl
theorem ivs_r (ι : Nat → Nat) (xs : List Int) : (ivs xs).map (r1 ι) = ivs xs := by
  unfold ivs
  rw [List.map_map]
  exact List.map_congr_left fun b _ => rfl
theorem ivs_get {xs : List Int} {i : Nat} {x : Int} (h : xs[i]? = some x) : (ivs xs)[i]? = some (.int .i64 x) := by simp [ivs, h]
theorem ivs_snoc (xs : List Int) (x : Int) : ivs xs ++ [.int .i64 x] = ivs (xs ++ [x]) := by simp [ivs]
theorem Rd.ivs {G : Mem} {Y : List (Nat × Row)} (h : Rd G Y) {b c : Nat} {ι : Nat → Nat} {r : Row} {xs : List Int} (hm : (b, r.r ι) ∈ Y) (hcs : r.cs = Am.ivs xs) (hl : xs.length ≤ 9223372036854775807) : RInts G (.slice (some ⟨b, 0, none⟩) xs.length c) xs := by
  refine .inl ⟨b, 0, c, rfl, hl, fun i x hx => ?_⟩
  rw [Nat.zero_add]
  refine h _ hm i _ ?_
  simp only [Row.r, hcs, ivs_r]
  exact ivs_get hx
theorem zer_gIn {ti : Ty} {s : Nat} (h : ti.zero = List.replicate s (.int .i64 0)) (n : Nat) : zer ti n = gI (fun _ => 0) (n * s) := by
  unfold zer
  rw [h]
  apply List.ext_getElem?
  intro i
  by_cases hi : i < n * s
  · rw [gI_get hi, flat_get _ _ _ (by simpa using hi)]
    have h0 : 0 < s := by rcases Nat.eq_zero_or_pos s with h | h; · subst h; simp at hi
                          · exact h
    simp [List.getElem?_replicate, Nat.mod_lt _ h0]
  · rw [List.getElem?_eq_none (by simp; omega), List.getElem?_eq_none (by simp [gI_length]; omega)]
theorem tup2 {a a' b b' : Value} (h1 : a = a') (h2 : b = b') : Value.tuple #[a, b] = Value.tuple #[a', b'] := by rw [h1, h2]
theorem tup3 {a a' b b' c c' : Value} (h1 : a = a') (h2 : b = b') (h3 : c = c') : Value.tuple #[a, b, c] = Value.tuple #[a', b', c'] := by rw [h1, h2, h3]
theorem tup4 {a a' b b' c c' d d' : Value} (h1 : a = a') (h2 : b = b') (h3 : c = c') (h4 : d = d') : Value.tuple #[a, b, c, d] = Value.tuple #[a', b', c', d'] := by rw [h1, h2, h3, h4]
end Go.Proofs.Ytbeblgjibfoanaa.Am
namespace Go.Proofs.Ytbeblgjibfoanaa.Am
set_option linter.unusedSimpArgs false
set_option linter.unusedVariables false
open Go Go.RowKit
/-! Numbers of 64 bits without a sign. -/
theorem wrapu (n : Int) : IntKind.u64.wrap n = n % 18446744073709551616 := by simp [IntKind.wrap, IntKind.bits, IntKind.signed]
theorem wraps_u64 (n : Int) (h0 : 0 ≤ n) (h1 : n < 2 ^ 64) : IntKind.u64.wrap n = n := by rw [wrapu]; omega
theorem wraps_i64 (n : Int) (h0 : 0 ≤ n) (h1 : n < 2 ^ 63) : IntKind.i64.wrap n = n := wrap_i64 (by omega) (by omega)
theorem u64_and32 (x : Int) (h0 : 0 ≤ x) (h1 : x < 18446744073709551616) : Go.bits .and .u64 x 4294967295 = x % 4294967296 := bits_mask .u64 64 (by decide) wraps_u64 32 (by decide) x h0 (by omega)
theorem u64_and1 (x : Int) (h0 : 0 ≤ x) (h1 : x < 18446744073709551616) : Go.bits .and .u64 x 1 = x % 2 := bits_mask .u64 64 (by decide) wraps_u64 1 (by decide) x h0 (by omega)
theorem i64_and63 (x : Int) (h0 : 0 ≤ x) (h1 : x < 9223372036854775808) : Go.bits .and .i64 x 63 = x % 64 := bits_mask .i64 63 (by decide) wraps_i64 6 (by decide) x h0 (by omega)
theorem u64_or1 (x y : Int) (h0 : 0 ≤ x) (hx : x % 2 = 0) (h1 : x < 18446744073709551616) (h2 : 0 ≤ y) (h3 : y < 2) : Go.bits .or .u64 x y = x + y :=
  bits_join .u64 64 (by decide) wraps_u64 1 x y h0 (by simpa using hx) (by omega) h2 (by simpa using h3) (by omega)
theorem u64_or32 (x y : Int) (h0 : 0 ≤ x) (hx : x % 4294967296 = 0) (h1 : x < 18446744073709551616) (h2 : 0 ≤ y) (h3 : y < 4294967296) : Go.bits .or .u64 x y = x + y :=
  bits_join .u64 64 (by decide) wraps_u64 32 x y h0 (by simpa using hx) (by omega) h2 (by simpa using h3) (by omega)
theorem mul_bd {x y : Int} (hx0 : 0 ≤ x) (hx : x ≤ 4294967295) (hy0 : 0 ≤ y) (hy : y ≤ 4294967295) : 0 ≤ x * y ∧ x * y ≤ 18446744065119617025 := by
  constructor
  · exact Int.mul_nonneg hx0 hy0
  · have := Int.mul_le_mul hx hy hy0 (by omega : (0 : Int) ≤ 4294967295)
    omega
theorem split_mul (a b : Int) : a * b = (a / 4294967296) * (b / 4294967296) * 18446744073709551616 + ((a / 4294967296) * (b % 4294967296) + (a % 4294967296) * (b / 4294967296)) * 4294967296 + (a % 4294967296) * (b % 4294967296) := by
  have ha : a = (a / 4294967296) * 4294967296 + a % 4294967296 := by omega
  have hb : b = (b / 4294967296) * 4294967296 + b % 4294967296 := by omega
  generalize a / 4294967296 = a1 at *
  generalize a % 4294967296 = a0 at *
  generalize b / 4294967296 = b1 at *
  generalize b % 4294967296 = b0 at *
  subst ha hb
  grind
theorem mul_hi_lo (p11 p10 p01 p00 ab : Int) (h : ab = p11 * 18446744073709551616 + (p10 + p01) * 4294967296 + p00)
    (a0 : 0 ≤ p11) (a1 : p11 ≤ 18446744065119617025) (b0 : 0 ≤ p10) (b1 : p10 ≤ 18446744065119617025) (c0 : 0 ≤ p01) (c1 : p01 ≤ 18446744065119617025) (d0 : 0 ≤ p00) (d1 : p00 ≤ 18446744065119617025) (hab : ab < 340282366920938463463374607431768211456) :
    (p11 + (p10 + p00 / 4294967296) / 4294967296 + ((p10 + p00 / 4294967296) % 4294967296 + p01) / 4294967296) = ab / 18446744073709551616 ∧
    ((p10 + p00 / 4294967296) % 4294967296 + p01) % 4294967296 * 4294967296 + p00 % 4294967296 = ab % 18446744073709551616 := by
  subst h
  constructor <;> omega
theorem mul_lt_sq {a b : Int} (ha0 : 0 ≤ a) (ha : a < 18446744073709551616) (hb0 : 0 ≤ b) (hb : b < 18446744073709551616) : 0 ≤ a * b ∧ a * b < 340282366920938463463374607431768211456 := by
  constructor
  · exact Int.mul_nonneg ha0 hb0
  · have := Int.mul_le_mul (show a ≤ 18446744073709551615 by omega) (show b ≤ 18446744073709551615 by omega) hb0 (by omega)
    omega
/-- one bit more of the dividend -/
theorem bit_step {P c b : Int} (hc : 0 < c) (hb0 : 0 ≤ b) (hb : b < 2) :
    (2 * P + b) / c = 2 * (P / c) + (if 2 * (P % c) + b ≥ c then 1 else 0) ∧ (2 * P + b) % c = 2 * (P % c) + b - (if 2 * (P % c) + b ≥ c then c else 0) := by
  have hd := Int.mul_ediv_add_emod P c
  have h0 := Int.emod_nonneg P (by omega : c ≠ 0)
  have h1 := Int.emod_lt_of_pos P hc
  generalize P / c = q at *
  generalize P % c = r at *
  by_cases h : 2 * r + b ≥ c
  · simp only [if_pos h]
    have e : 2 * P + b = (2 * r + b - c) + (2 * q + 1) * c := by rw [← hd]; grind
    rw [e, Int.add_mul_ediv_right _ _ (by omega), Int.add_mul_emod_self_right, Int.ediv_eq_zero_of_lt (by omega) (by omega), Int.emod_eq_of_lt (by omega) (by omega)]
    omega
  · simp only [if_neg h]
    have e : 2 * P + b = (2 * r + b) + (2 * q) * c := by rw [← hd]; grind
    rw [e, Int.add_mul_ediv_right _ _ (by omega), Int.add_mul_emod_self_right, Int.ediv_eq_zero_of_lt (by omega) (by omega), Int.emod_eq_of_lt (by omega) (by omega)]
    omega
theorem half_pow (D : Int) (i : Nat) : D / 2 ^ i = 2 * (D / 2 ^ (i + 1)) + D / 2 ^ i % 2 := by
  have e : D / 2 ^ (i + 1) = D / 2 ^ i / 2 := by
    rw [Int.pow_succ, Int.ediv_ediv_of_nonneg (Int.le_of_lt (Int.pow_pos (by decide)))]
  rw [e]; omega
theorem low_bit {hi lo : Int} (i : Nat) (hi' : i ≤ 63) : lo / 2 ^ i % 2 = (hi * 18446744073709551616 + lo) / 2 ^ i % 2 := by
  have e : hi * 18446744073709551616 + lo = lo + (hi * 2 ^ (63 - i) * 2) * 2 ^ i := by
    have : (18446744073709551616 : Int) = 2 ^ (63 - i) * 2 * 2 ^ i := by
      rw [← Int.pow_succ, ← Int.pow_add, show 63 - i + 1 + i = 64 from by omega]; rfl
    rw [this]; grind
  rw [e, Int.add_mul_ediv_right _ _ (Int.ne_of_gt (Int.pow_pos (by decide)))]
  omega
theorem high_bit {hi lo : Int} (h0 : 0 ≤ lo) (h1 : lo < 18446744073709551616) (i : Nat) (hi' : 64 ≤ i) : hi / 2 ^ (i - 64) = (hi * 18446744073709551616 + lo) / 2 ^ i := by
  have e : (2 : Int) ^ i = 18446744073709551616 * 2 ^ (i - 64) := by
    rw [show (18446744073709551616 : Int) = 2 ^ 64 from rfl, ← Int.pow_add, show 64 + (i - 64) = i from by omega]
  rw [e, ← Int.ediv_ediv_of_nonneg (by omega)]
  congr 1
  omega
section
variable {F : Mem} {K : Own} {L : Slots}
theorem suA {t t' : TypeId} {x y : Operand} {a b : Int} (hx : evO L x = some (.int .u64 a) := by rfl) (hy : evO L y = some (.int .u64 b) := by rfl) (h0 : 0 ≤ a + b := by omega) (h1 : a + b < 18446744073709551616 := by omega) : SD Try.prog F K L (.binOp .add t x y t') (.int .u64 (a + b)) :=
  (O (by simp [dOp, dBin, hx, hy, IntKind.wrap_i64, wraps_u64 _ h0 h1] : dOp Θ (evO L) (.binOp .add t x y t') = some (.int .u64 (a + b))))
theorem suS {t t' : TypeId} {x y : Operand} {a b : Int} (hx : evO L x = some (.int .u64 a) := by rfl) (hy : evO L y = some (.int .u64 b) := by rfl) (h0 : 0 ≤ a - b := by omega) (h1 : a - b < 18446744073709551616 := by omega) : SD Try.prog F K L (.binOp .sub t x y t') (.int .u64 (a - b)) :=
  (O (by simp [dOp, dBin, hx, hy, wraps_u64 _ h0 h1] : dOp Θ (evO L) (.binOp .sub t x y t') = some (.int .u64 (a - b))))
theorem suM {t t' : TypeId} {x y : Operand} {a b : Int} (hx : evO L x = some (.int .u64 a) := by rfl) (hy : evO L y = some (.int .u64 b) := by rfl) (h0 : 0 ≤ a * b := by omega) (h1 : a * b < 18446744073709551616 := by omega) : SD Try.prog F K L (.binOp .mul t x y t') (.int .u64 (a * b)) :=
  (O (by simp [dOp, dBin, hx, hy, wraps_u64 _ h0 h1] : dOp Θ (evO L) (.binOp .mul t x y t') = some (.int .u64 (a * b))))
theorem sbAnd {t t' : TypeId} {x y : Operand} {k : IntKind} {a b v : Int} (h : Go.bits .and k a b = v) (hx : evO L x = some (.int k a) := by rfl) (hy : evO L y = some (.int k b) := by rfl) : SD Try.prog F K L (.binOp .and t x y t') (.int k v) := by
  subst h
  exact O (by simp [dOp, dBin, hx, hy, Go.bits])
theorem sbOr {t t' : TypeId} {x y : Operand} {k : IntKind} {a b v : Int} (h : Go.bits .or k a b = v) (hx : evO L x = some (.int k a) := by rfl) (hy : evO L y = some (.int k b) := by rfl) : SD Try.prog F K L (.binOp .or t x y t') (.int k v) := by
  subst h
  exact O (by simp [dOp, dBin, hx, hy, Go.bits])
theorem suAnd32 {t t' : TypeId} {x y : Operand} {a : Int} (hx : evO L x = some (.int .u64 a) := by rfl) (hy : evO L y = some (.int .u64 4294967295) := by rfl) (h0 : 0 ≤ a := by omega) (h1 : a < 18446744073709551616 := by omega) : SD Try.prog F K L (.binOp .and t x y t') (.int .u64 (a % 4294967296)) := sbAnd (u64_and32 a h0 h1) hx hy
theorem suAnd1 {t t' : TypeId} {x y : Operand} {a : Int} (hx : evO L x = some (.int .u64 a) := by rfl) (hy : evO L y = some (.int .u64 1) := by rfl) (h0 : 0 ≤ a := by omega) (h1 : a < 18446744073709551616 := by omega) : SD Try.prog F K L (.binOp .and t x y t') (.int .u64 (a % 2)) := sbAnd (u64_and1 a h0 h1) hx hy
theorem suOr32 {t t' : TypeId} {x y : Operand} {a b : Int} (hx : evO L x = some (.int .u64 a) := by rfl) (hy : evO L y = some (.int .u64 b) := by rfl) (h0 : 0 ≤ a := by omega) (hm : a % 4294967296 = 0 := by omega) (h1 : a < 18446744073709551616 := by omega) (h2 : 0 ≤ b := by omega) (h3 : b < 4294967296 := by omega) : SD Try.prog F K L (.binOp .or t x y t') (.int .u64 (a + b)) := sbOr (u64_or32 a b h0 hm h1 h2 h3) hx hy
theorem suOr1 {t t' : TypeId} {x y : Operand} {a b : Int} (hx : evO L x = some (.int .u64 a) := by rfl) (hy : evO L y = some (.int .u64 b) := by rfl) (h0 : 0 ≤ a := by omega) (hm : a % 2 = 0 := by omega) (h1 : a < 18446744073709551616 := by omega) (h2 : 0 ≤ b := by omega) (h3 : b < 2 := by omega) : SD Try.prog F K L (.binOp .or t x y t') (.int .u64 (a + b)) := sbOr (u64_or1 a b h0 hm h1 h2 h3) hx hy
/-- shifts by so many places -/
theorem suShr {t t' : TypeId} {x y : Operand} {k j : IntKind} {a b v : Int} (n : Nat) (hv : a / 2 ^ n = v) (hx : evO L x = some (.int k a) := by rfl) (hy : evO L y = some (.int j b) := by rfl) (hb : b = n := by first | rfl | omega) (hn : n ≤ k.bits := by decide) : SD Try.prog F K L (.binOp .shr t x y t') (.int k v) := by
  subst hb hv
  have := SD.shrK (P := Try.prog) (F := F) (K := K) (t := t) (t' := t') hx hy (by omega)
  rw [show min ((n : Int)).toNat k.bits = n from by simp; omega, Int.fdiv_eq_ediv_of_nonneg _ (Int.le_of_lt (Int.pow_pos (by decide)))] at this
  exact this
theorem suShl {t t' : TypeId} {x y : Operand} {j : IntKind} {a b v : Int} (n : Nat) (hv : a * 2 ^ n % 18446744073709551616 = v) (hx : evO L x = some (.int .u64 a) := by rfl) (hy : evO L y = some (.int j b) := by rfl) (hb : b = n := by first | rfl | omega) (hn : n ≤ 64 := by decide) : SD Try.prog F K L (.binOp .shl t x y t') (.int .u64 v) := by
  subst hb hv
  have := SD.shlK (P := Try.prog) (F := F) (K := K) (t := t) (t' := t') hx hy (by omega)
  rw [show min ((n : Int)).toNat (IntKind.bits .u64) = n from by simp [IntKind.bits]; omega, wrapu] at this
  exact this
theorem suShr32 {t t' : TypeId} {x y : Operand} {j : IntKind} {a : Int} (hx : evO L x = some (.int .u64 a) := by rfl) (hy : evO L y = some (.int j 32) := by rfl) : SD Try.prog F K L (.binOp .shr t x y t') (.int .u64 (a / 4294967296)) := suShr 32 rfl hx hy
theorem suShl32 {t t' : TypeId} {x y : Operand} {j : IntKind} {a : Int} (hx : evO L x = some (.int .u64 a) := by rfl) (hy : evO L y = some (.int j 32) := by rfl) : SD Try.prog F K L (.binOp .shl t x y t') (.int .u64 (a * 4294967296 % 18446744073709551616)) := suShl 32 rfl hx hy
theorem suShr63 {t t' : TypeId} {x y : Operand} {j : IntKind} {a : Int} (hx : evO L x = some (.int .u64 a) := by rfl) (hy : evO L y = some (.int j 63) := by rfl) : SD Try.prog F K L (.binOp .shr t x y t') (.int .u64 (a / 9223372036854775808)) := suShr 63 rfl hx hy
theorem suShl1 {t t' : TypeId} {x y : Operand} {j : IntKind} {a : Int} (hx : evO L x = some (.int .u64 a) := by rfl) (hy : evO L y = some (.int j 1) := by rfl) : SD Try.prog F K L (.binOp .shl t x y t') (.int .u64 (a * 2 % 18446744073709551616)) := suShl 1 rfl hx hy
theorem si63 {t t' : TypeId} {x y : Operand} {a : Int} (hx : evO L x = some (.int .i64 a) := by rfl) (hy : evO L y = some (.int .i64 63) := by rfl) (h0 : 0 ≤ a := by omega) (h1 : a < 9223372036854775808 := by omega) : SD Try.prog F K L (.binOp .and t x y t') (.int .i64 (a % 64)) := sbAnd (i64_and63 a h0 h1) hx hy
/-- an int as another kind that holds it -/
theorem suC {s d : TypeId} {x : Operand} {i j : Ty} {k k' : IntKind} {a : Int} (hi : Θ.lookup s = some i := by rfl) (hj : Θ.lookup d = some j := by rfl) (hk : i.k = .int k := by rfl) (hk' : j.k = .int k' := by rfl) (hx : evO L x = some (.int k a) := by rfl) (hw : k'.wrap a = a := by first | exact wraps_u64 _ (by omega) (by omega) | exact wrap_i64 (by omega) (by omega)) : SD Try.prog F K L (.convert s d x) (.int k' a) := by
  refine O ?_
  simp [dOp, hi, hj, hx, hk, hk', dConv, hw]
end
section
variable {F : Mem} {K : Own} {L : Slots}
theorem und_bool {t : TypeId} {ti : Ty} (ht : Θ.lookup t = some ti) (hk : ti.k = .bool) : Try.prog.underlying t = some .bool := by
  obtain ⟨d, hd, hkd⟩ := (tab_ty hT ht).und
  rw [hk] at hkd
  cases d <;> first | exact hd | (simp [kindB] at hkd; done)
theorem sbEq {t t' : TypeId} {x y : Operand} {ti : Ty} {a b : Bool} (ht : Θ.lookup t = some ti := by rfl) (hk : ti.k = .bool := by rfl) (hx : evO L x = some (.bool a) := by rfl) (hy : evO L y = some (.bool b) := by rfl) : SD Try.prog F K L (.binOp .eql t x y t') (.bool (a == b)) := by
  intro ι ρ he o' ho w _
  obtain ⟨dst, op, type, pos, after, guard⟩ := o'
  simp only at ho
  subst ho
  simp [execOp, he _ _ hx, he _ _ hy, binOp, eqGuard, run_equal_bool w t a b (und_bool ht hk)]
theorem sbNe {t t' : TypeId} {x y : Operand} {ti : Ty} {a b : Bool} (ht : Θ.lookup t = some ti := by rfl) (hk : ti.k = .bool := by rfl) (hx : evO L x = some (.bool a) := by rfl) (hy : evO L y = some (.bool b) := by rfl) : SD Try.prog F K L (.binOp .neq t x y t') (.bool (a != b)) := by
  intro ι ρ he o' ho w _
  obtain ⟨dst, op, type, pos, after, guard⟩ := o'
  simp only at ho
  subst ho
  simp [execOp, he _ _ hx, he _ _ hy, binOp, eqGuard, bne, run_equal_bool w t a b (und_bool ht hk)]
end
def i64ok (x : Int) : Prop := -9223372036854775808 ≤ x ∧ x ≤ 9223372036854775807
def amt (x : Int) : Int := if x < 0 then -x else x
theorem amt_bd {x : Int} (h : i64ok x) : 0 ≤ amt x ∧ amt x ≤ 9223372036854775808 := by unfold amt; unfold i64ok at h; split <;> omega
theorem mul_amt (a b : Int) : amt a * amt b = if (decide (a < 0) != decide (b < 0)) = true then -(a * b) else a * b := by
  unfold amt
  by_cases ha : a < 0 <;> by_cases hb : b < 0 <;> simp [ha, hb, Int.neg_mul, Int.mul_neg]
theorem prod_lt {a b : Int} (ha : i64ok a) (hb : i64ok b) : 0 ≤ amt a * amt b ∧ amt a * amt b ≤ 85070591730234615865843651857942052864 := by
  have h1 := amt_bd ha; have h2 := amt_bd hb
  constructor
  · exact Int.mul_nonneg h1.1 h2.1
  · have := Int.mul_le_mul h1.2 h2.2 h2.1 (by omega)
    omega
def keepS (x : Int) : Int × Bool := if -1099511627776 ≤ x ∧ x ≤ 1099511627776 then (x, true) else (0, false)
/-- the quotient, rounded down, if it is in -/
def floorS (a b c : Int) : Int × Bool := if c < 1 then (0, false) else keepS (a * b / c)
/-- the quotient, rounded to the nearest (of two, the greater), if it is in -/
def scaleS (a b c : Int) : Int × Bool := if c < 1 then (0, false) else keepS ((2 * (a * b) + c) / (2 * c))
end Go.Proofs.Ytbeblgjibfoanaa.Am
namespace Go.Proofs.Ytbeblgjibfoanaa.Am
set_option linter.unusedSimpArgs false
set_option linter.unusedVariables false
open Go Go.RowKit
/-! Own rows that are handed to the world; loops that leave rows; append of nothing. -/
section
variable {X : Cx} {F : Mem} {L : Slots} {K : Own} {s : List SI} {ops : Array Oper} {o : Oper} {l : List Oper}
abbrev PlainRows (Y : List (Nat × Row)) : Prop := ∀ x ∈ Y, ∀ u ∈ x.2.cs, plain1 u = true
theorem St.release {ι : Nat → Nat} {w : World} {t : Nat} {r : Row} (h : St F ι ((t, r) :: K) w) (hp : ∀ v ∈ r.cs, plain1 v = true) : St (F.add [(ι t, r)]) ι K w := by
  have hrc : r.c ι = r.c fun _ => 0 := Row.c_flat _ _ hp
  have h0 := h.own _ List.mem_cons_self
  refine ⟨h.below, ?_, fun x hx => h.own x (List.mem_cons_of_mem _ hx), fun x hx => ?_⟩
  · have := h.nodup
    simp only [Mem.add, List.map_cons, List.cons_append, List.nil_append] at this ⊢
    exact (List.Perm.nodup_iff List.perm_middle).2 this
  · rcases List.mem_cons.1 hx with rfl | hx
    · refine ⟨h0.1, ?_⟩
      have := h0.2.1
      rw [hrc] at this
      exact this
    · exact h.ext x hx
theorem JL.release {d t n c off : Nat} {r : Row} (Lk : Slots) (Kk : Own)
    (h : ∀ b, PlainRows [(b, r)] → New F [(b, r)] → JL X ops l s (F.add [(b, r)]) ((d, .slice (some ⟨b, off, none⟩) n c) :: Lk) Kk)
    (hd : L.lookup d = some (.slice (some ⟨t, off, some 0⟩) n c) := by rfl) (hr : K.lookup t = some r := by rfl) (hfl : (r.flat || r.cs.all plain1) = true := by rfl) (hLk : LSub Lk L := by repeat' first | exact trivial | refine And.intro rfl ?_) (hKk : KSub Kk K := by repeat' first | exact trivial | refine And.intro rfl ?_)
    (hKt : (Kk.all fun x => x.1 != t) = true := by rfl) (hdk : (Lk.all fun x => x.1 != d) = true := by rfl) : JL X ops l s F L K := by
  intro ι a w hF hS
  have hp : ∀ v ∈ r.cs, plain1 v = true := by
    simp only [Bool.or_eq_true] at hfl
    rcases hfl with hfl | hfl
    · exact (hS.own _ (lookup_mem hr)).2.2 hfl
    · exact List.all_eq_true.1 hfl
  have hS1 : St F ι ((t, r) :: Kk) w := hS.weak ⟨hr, hKt, hKk⟩
  have hS2 := hS1.release hp
  have hpr : PlainRows [(ι t, r)] := fun x hx => by rw [List.mem_singleton.1 hx]; exact hp
  refine h (ι t) hpr (hS2.new_ hpr) ι a w ?_ hS2
  refine ⟨hF.size, hF.defers, fun s v hv => ?_⟩
  rw [List.lookup_cons] at hv
  split at hv
  · rename_i e
    have e1 : s = d := by simpa using e
    subst e1
    simp only [Option.some.injEq] at hv
    subst hv
    have := hF.slot s _ hd
    simpa using this
  · exact hF.slot s v (hLk.get s v hv)
theorem J.useNew {c : Code} {Y : List (Nat × Row)} (hp : PlainRows Y) (h : New F Y → J X (.code c :: s) (F.add Y) L K) : J X (.code c :: s) (F.add Y) L K := fun ι a w hF hS => h (hS.new_ hp) ι a w hF hS
theorem add_add (F : Mem) (Y Z : List (Nat × Row)) : (F.add Y).add Z = F.add (Z ++ Y) := by simp [Mem.add]
theorem Rd.app_left {G : Mem} {Y Z : List (Nat × Row)} (h : Rd G (Z ++ Y)) : Rd G Z := fun x hx => h x (List.mem_append_left _ hx)
theorem Rd.app_right {G : Mem} {Y Z : List (Nat × Row)} (h : Rd G (Z ++ Y)) : Rd G Y := fun x hx => h x (List.mem_append_right _ hx)
theorem PlainRows.app {Y Z : List (Nat × Row)} (hy : PlainRows Y) (hz : PlainRows Z) : PlainRows (Z ++ Y) := fun x hx => by
  rcases List.mem_append.1 hx with hx | hx
  · exact hz x hx
  · exact hy x hx
theorem PlainRows.nil : PlainRows [] := fun x hx => by cases hx
/-- a literal slice behind a guard -/
theorem slg {Θ : Tab} {ty el : TypeId} {parts : Array (Nat × Operand)} {d n j e : Nat} {want : Bool} {ti tj : Ty} {ps : List (Nat × List Value)} {cs : List Value} (hk : JL X ops l s F ((d, .slice (some ⟨d, 0, some 0⟩) n n) :: L) ((d, { elem := el, cs := cs, room := n * tj.size, flat := false }) :: K))
    (hg : o.guard = some (j, want) := by rfl) (hj' : (ops[j]?).bind (·.dst) = some e := by rfl) (hb : L.lookup e = some (.bool want) := by rfl) (ho : o.op = .buildSlice ty n parts := by rfl) (hd : o.dst = some d := by rfl) (hN : d < X.N := by exact Nat.le_of_ble_eq_true rfl) (hθ : tabOk X.P Θ = true := by exact hT) (hi : Θ.lookup ty = some ti := by rfl) (hki : ti.k = .slice el := by rfl) (hj : Θ.lookup el = some tj := by rfl)
    (hp : partsL (evO L) parts.toList = some ps := by rfl) (h1 : ps.all (fun q => q.2.all (·.oneCell')) = true := by rfl) (hf : fillL (fun i => some (i * tj.size, tj.size)) (zer tj n) ps = some cs := by rfl) (hs : n * tj.size ≤ 16777216 := by exact Nat.le_of_ble_eq_true rfl) (hz0 : tj.zero.length = tj.size := by rfl) (hz1 : 0 < tj.size := by exact Nat.le_of_ble_eq_true rfl)
    (hL : ntL d L = true := by rfl) (hK : ntK d K = true := by rfl) (hD : X.D.contains d = false := by rfl) : JL X ops (o :: l) s F L K :=
  JL.stepG hg hj' hb (Go1.slit hθ ho hd hN hi hki hj hp h1 hf hs hz0 hz1 hL hK hD hk)
/-- append of nothing to an own row -/
theorem ap0 {Θ : Tab} {ty ty' el : TypeId} {sx x : Operand} {d n c u : Nat} {ti ti' tj : Ty} {xv : Value} (hk : JL X ops l s F ((d, .slice (some ⟨u, 0, some 0⟩) n c) :: L) K)
    (hg : o.guard = none := by rfl) (ho : o.op = .call ⟨.builtin .append, #[sx, x], #[ty, ty']⟩ := by rfl) (hd : o.dst = some d := by rfl) (hN : d < X.N := by exact Nat.le_of_ble_eq_true rfl) (hθ : tabOk X.P Θ = true := by exact hT)
    (hi : Θ.lookup ty = some ti := by rfl) (hki : ti.k = .slice el := by rfl) (hi' : Θ.lookup ty' = some ti' := by rfl) (hk' : slB ti'.k = true := by rfl) (hj : Θ.lookup el = some tj := by rfl)
    (hs : evO L sx = some (.slice (some ⟨u, 0, some 0⟩) n c) := by rfl) (hx : evO L x = some xv := by rfl) (happ : App X.P F K tj.size xv 0 [] := by first | exact App.nil _ _ | exact App.slice rfl (by simp) (by simp)) (hnc : n ≤ c := by first | exact Nat.le_of_ble_eq_true rfl | omega) : JL X ops (o :: l) s F L K := by
  refine JL.step hg ?_
  intro ι a w hF hS
  have tye := tab_ty hθ hj
  obtain ⟨dd, hdd, hkd⟩ := (tab_ty hθ hi).und
  rw [hki] at hkd
  cases dd <;> try (simp [kindB] at hkd; done)
  simp only [kindB, beq_iff_eq] at hkd
  subst hkd
  rename_i el
  obtain ⟨d', hdd', hkd'⟩ := (tab_ty hθ hi').und
  have hd' : ∀ k, d' ≠ .int k := by
    intro k e
    subst e
    cases hq : ti'.k <;> rw [hq] at hk' hkd' <;> first | (simp [slB] at hk'; done) | simp [kindB] at hkd'
  have hlen := happ.lenOf ι w
  have hc0 := happ.cells ι w hS
  have hrun := run_append_in (ty := o.type) (a := ⟨ι u, 0, none⟩) (n := n) (c := c) (xv := cV ι xv) (w' := w) hdd hdd' hd' (tye.run_size w) hlen hc0 (by omega) (by simp [storeCells])
  refine ⟨ι, w, cV ι (.slice (some ⟨u, 0, some 0⟩) n c), F, _, K, .inl ?_, by rw [hd]; exact hF.put hN _, hS, fun _ _ => rfl, hk⟩
  obtain ⟨dst, op, type, pos, after, guard⟩ := o
  simp only at ho hrun
  subst ho
  have e1 := hF.ev hs
  have e2 := hF.ev hx
  simp only [cV_slice, cA_own] at e1
  simp only [execOp, resolve, Sem.run_bind, Sem.run_pure, Result.andThen_ok, invoke, builtin]
  simp only [List.map_toArray, List.map_cons, List.map_nil, e1, e2, hrun, Result.andThen_ok, Sem.run_pure, cV_slice, cA_own, Nat.add_zero]

theorem J.gloop1 {c : Code} {α : Type} (ok : List (Nat × Row) → α → Prop) (Lf : α → Slots) (kp : Slots) (Kf : α → Own) (kk : Own) (μ : α → Nat) (x0 : α) (hL : LSub (Lf x0) L) (hk : LSub kp L) (hK : KSub (Kf x0 ++ kk) K) (h0 : ok [] x0)
    (round : ∀ Y x L1 K1, L1 = Lf x ++ kp → K1 = Kf x ++ kk → ok Y x → PlainRows Y → New F Y → J X (.code c :: .back (fun F' L' K' => ∃ Y' x', μ x' < μ x ∧ ok Y' x' ∧ PlainRows Y' ∧ F' = F.add Y' ∧ LSub (Lf x') L' ∧ LSub kp L' ∧ KSub (Kf x' ++ kk) K') :: s) (F.add Y) L1 K1) : J X (.code (.loop c) :: s) F L K :=
  J.loop (α := List (Nat × Row) × α) (fun p F' L' K' => ok p.1 p.2 ∧ PlainRows p.1 ∧ F' = F.add p.1 ∧ LSub (Lf p.2 ++ kp) L' ∧ KSub (Kf p.2 ++ kk) K') (fun p => μ p.2) ([], x0) ⟨h0, PlainRows.nil, rfl, hL.app hk, hK⟩ (by
    rintro ⟨Y, x⟩ F' L' K' ⟨h1, hp, rfl, h2, h3⟩
    refine WP.weak h2 h3 ?_
    intro ι a w hF hS
    refine wp_mono (round Y x _ _ rfl rfl h1 hp (hS.new_ hp) ι a w hF hS) fun e a' w' hl => ?_
    obtain ⟨ι1, F1, L1, K1, g1, g2, g3, g4⟩ := hl
    refine ⟨ι1, F1, L1, K1, g1, g2, g3, ?_⟩
    cases e with
    | normal =>
      obtain ⟨Y', x', q1, q2, q7, q3, q4, q5, q6⟩ := g4
      exact ⟨⟨Y', x'⟩, q1, q2, q7, q3, q4.app q5, q6⟩
    | _ => exact g4)
theorem gbk1 {α : Type} {F0 : Mem} {ok : List (Nat × Row) → α → Prop} {Lf : α → Slots} {kp : Slots} {Kf : α → Own} {kk : Own} {μ : α → Nat} {m : Nat} (Y' : List (Nat × Row)) (x' : α) (hL : LSub (Lf x') L) (hk : LSub kp L) (hK : KSub (Kf x' ++ kk) K) (hFe : F = F0.add Y') (hp : PlainRows Y') (hμ : μ x' < m) (hok : ok Y' x') :
    J X (.back (fun F' L' K' => ∃ Y' x', μ x' < m ∧ ok Y' x' ∧ PlainRows Y' ∧ F' = F0.add Y' ∧ LSub (Lf x') L' ∧ LSub kp L' ∧ KSub (Kf x' ++ kk) K') :: s) F L K := ⟨Y', x', hμ, hok, hp, hFe, hL, hk, hK⟩
theorem J.gloop2 {c : Code} {α β : Type} (ok : List (Nat × Row) → α → β → Prop) (Lf : α → β → Slots) (kp : Slots) (Kf : α → β → Own) (kk : Own) (μ : α → β → Nat) (x0 : α) (y0 : β) (hL : LSub (Lf x0 y0) L) (hk : LSub kp L) (hK : KSub (Kf x0 y0 ++ kk) K) (h0 : ok [] x0 y0)
    (round : ∀ Y x y L1 K1, L1 = Lf x y ++ kp → K1 = Kf x y ++ kk → ok Y x y → PlainRows Y → New F Y → J X (.code c :: .back (fun F' L' K' => ∃ Y' x' y', μ x' y' < μ x y ∧ ok Y' x' y' ∧ PlainRows Y' ∧ F' = F.add Y' ∧ LSub (Lf x' y') L' ∧ LSub kp L' ∧ KSub (Kf x' y' ++ kk) K') :: s) (F.add Y) L1 K1) : J X (.code (.loop c) :: s) F L K :=
  J.loop (α := List (Nat × Row) × α × β) (fun p F' L' K' => ok p.1 p.2.1 p.2.2 ∧ PlainRows p.1 ∧ F' = F.add p.1 ∧ LSub (Lf p.2.1 p.2.2 ++ kp) L' ∧ KSub (Kf p.2.1 p.2.2 ++ kk) K') (fun p => μ p.2.1 p.2.2) ([], x0, y0) ⟨h0, PlainRows.nil, rfl, hL.app hk, hK⟩ (by
    rintro ⟨Y, x, y⟩ F' L' K' ⟨h1, hp, rfl, h2, h3⟩
    refine WP.weak h2 h3 ?_
    intro ι a w hF hS
    refine wp_mono (round Y x y _ _ rfl rfl h1 hp (hS.new_ hp) ι a w hF hS) fun e a' w' hl => ?_
    obtain ⟨ι1, F1, L1, K1, g1, g2, g3, g4⟩ := hl
    refine ⟨ι1, F1, L1, K1, g1, g2, g3, ?_⟩
    cases e with
    | normal =>
      obtain ⟨Y', x', y', q1, q2, q7, q3, q4, q5, q6⟩ := g4
      exact ⟨⟨Y', x', y'⟩, q1, q2, q7, q3, q4.app q5, q6⟩
    | _ => exact g4)
theorem gbk2 {α β : Type} {F0 : Mem} {ok : List (Nat × Row) → α → β → Prop} {Lf : α → β → Slots} {kp : Slots} {Kf : α → β → Own} {kk : Own} {μ : α → β → Nat} {m : Nat} (Y' : List (Nat × Row)) (x' : α) (y' : β) (hL : LSub (Lf x' y') L) (hk : LSub kp L) (hK : KSub (Kf x' y' ++ kk) K) (hFe : F = F0.add Y') (hp : PlainRows Y') (hμ : μ x' y' < m) (hok : ok Y' x' y') :
    J X (.back (fun F' L' K' => ∃ Y' x' y', μ x' y' < m ∧ ok Y' x' y' ∧ PlainRows Y' ∧ F' = F0.add Y' ∧ LSub (Lf x' y') L' ∧ LSub kp L' ∧ KSub (Kf x' y' ++ kk) K') :: s) F L K := ⟨Y', x', y', hμ, hok, hp, hFe, hL, hk, hK⟩
theorem J.gloop3 {c : Code} {α β γ : Type} (ok : List (Nat × Row) → α → β → γ → Prop) (Lf : α → β → γ → Slots) (kp : Slots) (Kf : α → β → γ → Own) (kk : Own) (μ : α → β → γ → Nat) (x0 : α) (y0 : β) (z0 : γ) (hL : LSub (Lf x0 y0 z0) L) (hk : LSub kp L) (hK : KSub (Kf x0 y0 z0 ++ kk) K) (h0 : ok [] x0 y0 z0)
    (round : ∀ Y x y z L1 K1, L1 = Lf x y z ++ kp → K1 = Kf x y z ++ kk → ok Y x y z → PlainRows Y → New F Y → J X (.code c :: .back (fun F' L' K' => ∃ Y' x' y' z', μ x' y' z' < μ x y z ∧ ok Y' x' y' z' ∧ PlainRows Y' ∧ F' = F.add Y' ∧ LSub (Lf x' y' z') L' ∧ LSub kp L' ∧ KSub (Kf x' y' z' ++ kk) K') :: s) (F.add Y) L1 K1) : J X (.code (.loop c) :: s) F L K :=
  J.loop (α := List (Nat × Row) × α × β × γ) (fun p F' L' K' => ok p.1 p.2.1 p.2.2.1 p.2.2.2 ∧ PlainRows p.1 ∧ F' = F.add p.1 ∧ LSub (Lf p.2.1 p.2.2.1 p.2.2.2 ++ kp) L' ∧ KSub (Kf p.2.1 p.2.2.1 p.2.2.2 ++ kk) K') (fun p => μ p.2.1 p.2.2.1 p.2.2.2) ([], x0, y0, z0) ⟨h0, PlainRows.nil, rfl, hL.app hk, hK⟩ (by
    rintro ⟨Y, x, y, z⟩ F' L' K' ⟨h1, hp, rfl, h2, h3⟩
    refine WP.weak h2 h3 ?_
    intro ι a w hF hS
    refine wp_mono (round Y x y z _ _ rfl rfl h1 hp (hS.new_ hp) ι a w hF hS) fun e a' w' hl => ?_
    obtain ⟨ι1, F1, L1, K1, g1, g2, g3, g4⟩ := hl
    refine ⟨ι1, F1, L1, K1, g1, g2, g3, ?_⟩
    cases e with
    | normal =>
      obtain ⟨Y', x', y', z', q1, q2, q7, q3, q4, q5, q6⟩ := g4
      exact ⟨⟨Y', x', y', z'⟩, q1, q2, q7, q3, q4.app q5, q6⟩
    | _ => exact g4)
theorem gbk3 {α β γ : Type} {F0 : Mem} {ok : List (Nat × Row) → α → β → γ → Prop} {Lf : α → β → γ → Slots} {kp : Slots} {Kf : α → β → γ → Own} {kk : Own} {μ : α → β → γ → Nat} {m : Nat} (Y' : List (Nat × Row)) (x' : α) (y' : β) (z' : γ) (hL : LSub (Lf x' y' z') L) (hk : LSub kp L) (hK : KSub (Kf x' y' z' ++ kk) K) (hFe : F = F0.add Y') (hp : PlainRows Y') (hμ : μ x' y' z' < m) (hok : ok Y' x' y' z') :
    J X (.back (fun F' L' K' => ∃ Y' x' y' z', μ x' y' z' < m ∧ ok Y' x' y' z' ∧ PlainRows Y' ∧ F' = F0.add Y' ∧ LSub (Lf x' y' z') L' ∧ LSub kp L' ∧ KSub (Kf x' y' z' ++ kk) K') :: s) F L K := ⟨Y', x', y', z', hμ, hok, hp, hFe, hL, hk, hK⟩
theorem J.gloop4 {c : Code} {α β γ δ : Type} (ok : List (Nat × Row) → α → β → γ → δ → Prop) (Lf : α → β → γ → δ → Slots) (kp : Slots) (Kf : α → β → γ → δ → Own) (kk : Own) (μ : α → β → γ → δ → Nat) (x0 : α) (y0 : β) (z0 : γ) (u0 : δ) (hL : LSub (Lf x0 y0 z0 u0) L) (hk : LSub kp L) (hK : KSub (Kf x0 y0 z0 u0 ++ kk) K) (h0 : ok [] x0 y0 z0 u0)
    (round : ∀ Y x y z u L1 K1, L1 = Lf x y z u ++ kp → K1 = Kf x y z u ++ kk → ok Y x y z u → PlainRows Y → New F Y → J X (.code c :: .back (fun F' L' K' => ∃ Y' x' y' z' u', μ x' y' z' u' < μ x y z u ∧ ok Y' x' y' z' u' ∧ PlainRows Y' ∧ F' = F.add Y' ∧ LSub (Lf x' y' z' u') L' ∧ LSub kp L' ∧ KSub (Kf x' y' z' u' ++ kk) K') :: s) (F.add Y) L1 K1) : J X (.code (.loop c) :: s) F L K :=
  J.loop (α := List (Nat × Row) × α × β × γ × δ) (fun p F' L' K' => ok p.1 p.2.1 p.2.2.1 p.2.2.2.1 p.2.2.2.2 ∧ PlainRows p.1 ∧ F' = F.add p.1 ∧ LSub (Lf p.2.1 p.2.2.1 p.2.2.2.1 p.2.2.2.2 ++ kp) L' ∧ KSub (Kf p.2.1 p.2.2.1 p.2.2.2.1 p.2.2.2.2 ++ kk) K') (fun p => μ p.2.1 p.2.2.1 p.2.2.2.1 p.2.2.2.2) ([], x0, y0, z0, u0) ⟨h0, PlainRows.nil, rfl, hL.app hk, hK⟩ (by
    rintro ⟨Y, x, y, z, u⟩ F' L' K' ⟨h1, hp, rfl, h2, h3⟩
    refine WP.weak h2 h3 ?_
    intro ι a w hF hS
    refine wp_mono (round Y x y z u _ _ rfl rfl h1 hp (hS.new_ hp) ι a w hF hS) fun e a' w' hl => ?_
    obtain ⟨ι1, F1, L1, K1, g1, g2, g3, g4⟩ := hl
    refine ⟨ι1, F1, L1, K1, g1, g2, g3, ?_⟩
    cases e with
    | normal =>
      obtain ⟨Y', x', y', z', u', q1, q2, q7, q3, q4, q5, q6⟩ := g4
      exact ⟨⟨Y', x', y', z', u'⟩, q1, q2, q7, q3, q4.app q5, q6⟩
    | _ => exact g4)
theorem gbk4 {α β γ δ : Type} {F0 : Mem} {ok : List (Nat × Row) → α → β → γ → δ → Prop} {Lf : α → β → γ → δ → Slots} {kp : Slots} {Kf : α → β → γ → δ → Own} {kk : Own} {μ : α → β → γ → δ → Nat} {m : Nat} (Y' : List (Nat × Row)) (x' : α) (y' : β) (z' : γ) (u' : δ) (hL : LSub (Lf x' y' z' u') L) (hk : LSub kp L) (hK : KSub (Kf x' y' z' u' ++ kk) K) (hFe : F = F0.add Y') (hp : PlainRows Y') (hμ : μ x' y' z' u' < m) (hok : ok Y' x' y' z' u') :
    J X (.back (fun F' L' K' => ∃ Y' x' y' z' u', μ x' y' z' u' < m ∧ ok Y' x' y' z' u' ∧ PlainRows Y' ∧ F' = F0.add Y' ∧ LSub (Lf x' y' z' u') L' ∧ LSub kp L' ∧ KSub (Kf x' y' z' u' ++ kk) K') :: s) F L K := ⟨Y', x', y', z', u', hμ, hok, hp, hFe, hL, hk, hK⟩
end
section
variable {F : Mem} {K : Own} {L : Slots}
theorem sdCutH {t el : TypeId} {x y : Operand} {b off n c : Nat} {sp : Option Nat} {k : IntKind} {h : Int} {ti tj : Ty} (ht : Θ.lookup t = some ti := by rfl) (hk : ti.k = .slice el := by rfl) (hj : Θ.lookup el = some tj := by rfl) (hx : evO L x = some (.slice (some ⟨b, off, sp⟩) n c) := by rfl) (hy : evO L y = some (.int k h) := by rfl) (h0 : 0 ≤ h := by omega) (h1 : h.toNat ≤ c := by omega) :
    SD Try.prog F K L (.slice t x none (some y) none) (.slice (some ⟨b, off, sp⟩) h.toNat c) := by
  have := SD.cutS (P := Try.prog) (F := F) (K := K) (L := L) hT ht hk hj hx (lo := none) (hi := some y) (l := 0) (h := h.toNat) rfl ⟨k, by rw [hy]; congr 2; omega⟩ (Nat.zero_le _) h1
  simpa [addA_zero] using this
end
section
variable {F : Mem} {L : Slots} {K : Own} {s : List SI}
/-- the end: all of the call's own rows are left, and those that were handed over -/
theorem outX.allY {Q : Value → List (Nat × Row) → Prop} {v : Value} {Y : List (Nat × Row)} (hp : PlainRows Y) (h : ∀ ι, Val ι K (F.add Y) → Q (rV ι v) ((K.map fun x => (ι x.1, x.2.r ι)) ++ Y)) : outX F Q v (F.add Y) K :=
  ⟨Y, rfl, hp, fun ι hv => ⟨(K.map fun x => (ι x.1, x.2.r ι)) ++ Y, fun x hx => hx, by
    have := hv.nodup
    simp only [Mem.add, List.map_append] at this
    rw [← List.append_assoc] at this
    have := (List.nodup_append.1 this).1
    simpa [List.map_map, Function.comp_def] using this, h ι hv⟩⟩
theorem rtY {Θ : Tab} {rs : List ResultVar} {Q : Value → List (Nat × Row) → Prop} {v : Value} {P : Program} {N : Nat} {D : List Nat} {Y : List (Nat × Row)} (hp : PlainRows Y) (h : ∀ ι, Val ι K (F.add Y) → Q (rV ι v) ((K.map fun x => (ι x.1, x.2.r ι)) ++ Y)) (hr : resV Θ (F.add Y) L K rs = some v := by rfl) : J ⟨P, N, D, retR Θ rs (outX F Q)⟩ (.code .ret :: s) (F.add Y) L K := J.ret ⟨v, hr, outX.allY hp h⟩
theorem reY {Θ : Tab} {rs : List ResultVar} {Q : Value → List (Nat × Row) → Prop} {v : Value} {P : Program} {N : Nat} {D : List Nat} {Y : List (Nat × Row)} (hp : PlainRows Y) (h : ∀ ι, Val ι K (F.add Y) → Q (rV ι v) ((K.map fun x => (ι x.1, x.2.r ι)) ++ Y)) (hr : resV Θ (F.add Y) L K rs = some v := by rfl) : J ⟨P, N, D, retR Θ rs (outX F Q)⟩ [] (F.add Y) L K := ⟨v, hr, outX.allY hp h⟩
end
/-! Rows of several cells an element. -/
theorem flat_at {xs : List (List Value)} {sz i j : Nat} (h : ∀ x ∈ xs, x.length = sz) (hj : j < sz) : xs.flatten[i * sz + j]? = (xs[i]?).bind (·[j]?) := by
  induction xs generalizing i with
  | nil => simp
  | cons x xs ih =>
    have hx := h x List.mem_cons_self
    rw [List.flatten_cons]
    cases i with
    | zero =>
      rw [Nat.zero_mul, Nat.zero_add, List.getElem?_append_left (by omega)]
      simp
    | succ i =>
      rw [List.getElem?_append_right (by rw [Nat.add_mul]; omega), show (i + 1) * sz + j - x.length = i * sz + j from by rw [Nat.add_mul]; omega, ih (fun y hy => h y (List.mem_cons_of_mem _ hy))]
      simp
theorem lookN_of {F : Mem} {a : Addr} : ∀ {cs : List Value}, (∀ j v, cs[j]? = some v → look F (addA a j) = some v) → lookN F a cs.length = some cs := by
  intro cs
  induction cs generalizing a with
  | nil => intro _; rfl
  | cons v cs ih =>
    intro h
    have h0 := h 0 v rfl
    rw [addA_zero] at h0
    have h1 := ih (a := addA a 1) (fun j u hj => by
      have := h (j + 1) u (by simpa using hj)
      rw [← this, addA_addA, Nat.add_comm 1 j])
    simp only [List.length_cons, lookN]
    rw [show look F a = some v from h0, h1]
theorem lookN_ints {F : Mem} {b off : Nat} {xs : List Int} (h : ∀ i x, xs[i]? = some x → look F ⟨b, off + i, none⟩ = some (.int .i64 x)) : lookN F ⟨b, off, none⟩ xs.length = some (ivs xs) := by
  have := lookN_of (F := F) (a := ⟨b, off, none⟩) (cs := ivs xs) (fun j v hv => by
    unfold ivs at hv
    rw [List.getElem?_map] at hv
    cases hx : xs[j]? with
    | none => simp [hx] at hv
    | some x =>
      simp only [hx, Option.map_some, Option.some.injEq] at hv
      subst hv
      exact h j x hx)
  rwa [ivs_length] at this

end Go.Proofs.Ytbeblgjibfoanaa.Am
namespace Go.Proofs.Ytbeblgjibfoanaa.Am
set_option linter.unusedSimpArgs false
set_option linter.unusedVariables false
open Go Go.RowKit
/-! What is handed in, told by what is read of it. -/
section
variable {H : Type} {enc : TypeId × Value → H} {P : Program} {W : World}
theorem cell_lt {a : Addr} {u : Value} (h : W.cell? a = some u) : a.block < W.heap.size ∧ a.spot = none := by
  unfold World.cell? at h
  split at h
  · rename_i c e f hb
    split at h
    · simp at h
    · rename_i hs
      refine ⟨(Array.getElem?_eq_some_iff.1 hb).1, ?_⟩
      simpa using hs
  · simp at h
theorem look_w {a : Addr} {u : Value} (h : W.cell? a = some u) (hp : plain1 (e1 u) = true) : look ⟨W, []⟩ a = some (e1 u) := by
  have := (cell_lt h).1
  simp only [look, this, if_true, h, Option.map_some, Option.bind_some, hp]
theorem pick_list {β : Type} {Q : Nat → β → Prop} : ∀ (n : Nat), (∀ i, i < n → ∃ x, Q i x) → ∃ xs : List β, xs.length = n ∧ ∀ i x, xs[i]? = some x → Q i x := by
  intro n
  induction n with
  | zero => intro _; exact ⟨[], rfl, fun i x h => by simp at h⟩
  | succ n ih =>
    intro h
    obtain ⟨xs, hl, hx⟩ := ih (fun i hi => h i (by omega))
    obtain ⟨x, hq⟩ := h n (by omega)
    refine ⟨xs ++ [x], by simp [hl], fun i y hy => ?_⟩
    by_cases hi : i < n
    · rw [List.getElem?_append_left (by omega)] at hy; exact hx i y hy
    · have hi2 : i < n + 1 := by have := (List.getElem?_eq_some_iff.1 hy).1; simp [hl] at this; omega
      have e : i = n := by omega
      subst e
      rw [List.getElem?_append_right (by omega), hl] at hy
      simp at hy
      rw [← hy]; exact hq
theorem okWide_spot {t e : TypeId} {r : Reach} {base : Nat} {v : Value} (ht : P.underlying t = some (.slice e)) (h : Value.okWide P W r base t v) : ∀ a n c, v = .slice (some a) n c → a.spot = none := by
  rintro a n c rfl
  simp only [Value.okWide, ht, Cell.okWide, Cell.ok] at h
  exact h.2.2.2.1
theorem weights_all_mem {e : TypeId} {d : DataW H} : ∀ {ds : List (DataW H)}, d ∈ ds → ∀ n ∈ d.weights P e, n ∈ DataW.weightsAll P e ds := by
  intro ds
  induction ds with
  | nil => intro h; simp at h
  | cons a r ih =>
    intro h n hn
    simp only [DataW.weightsAll, List.mem_append]
    rcases List.mem_cons.1 h with rfl | h
    · exact .inl hn
    · exact .inr (ih h n hn)
theorem add_plain {a : Addr} (h : a.spot = none) (n : Nat) : a.add n = ⟨a.block, a.off + n, none⟩ := by
  obtain ⟨b, o, s⟩ := a
  simp only at h
  subst h
  exact addA_none b o n
/-- a slice that is handed in: where it has room it lies in the world -/
theorem open_slice {t e : TypeId} (B sz : Nat) (ht : P.underlying t = some (.slice e)) (hc : P.cellsOf e = sz) (hB : P.bytesOf e = B) (hsz : 0 < sz) {fuel : Nat} {cs : List Value} {y : DataW H × List MemPlace}
    (hy : DataW.trod enc P W 0 (fun _ => true) true fuel t cs = some y) (hw : ∀ n ∈ y.1.weights P t, n ≤ reachBytes) :
    (cs = [.slice none 0 0]) ∨ (∃ b o s, cs = [.slice (some ⟨b, o, some s⟩) 0 0]) ∨ ∃ b o len cap, cs = [.slice (some ⟨b, o, none⟩) len cap] ∧ len ≤ cap ∧ len ≤ 9223372036854775807 ∧ len * B ≤ 140737488351232 ∧
      ∀ i, i < len → ∃ (c : List Value) (n : Nat) (z : DataW H × List MemPlace), c.length = sz ∧ (∀ j u, c[j]? = some u → W.cell? ⟨b, o + i * sz + j, none⟩ = some u) ∧ DataW.trod enc P W 0 (fun _ => true) true n e c = some z ∧ ∀ n ∈ z.1.weights P e, n ≤ reachBytes := by
  rcases DataW.trod_slice ht hy with ⟨rfl, _⟩ | ⟨a, len, cap, elems, rest, n, _, rfl, rfl, _, hl, hm, hlen, hel, hsp, _⟩
  · exact .inl rfl
  · obtain ⟨hr1, hr2⟩ := hsp rfl
    have hwt : ∀ d ∈ elems.map (·.1), ∀ m ∈ d.weights P e, m ≤ reachBytes := fun d hd m hm2 => hw m (by
      simp only [DataW.weights, ht, List.mem_cons, List.mem_append]
      exact .inr (.inl (weights_all_mem hd m hm2)))
    have each : ∀ i, i < len → ∃ (c : List Value) (z : DataW H × List MemPlace), c.length = sz ∧ (∀ j u, c[j]? = some u → W.cell? (a.add (i * sz + j)) = some u) ∧ DataW.trod enc P W 0 (fun _ => true) true n e c = some z ∧ ∀ n ∈ z.1.weights P e, n ≤ reachBytes := by
      intro i hi
      have h1 := hel i hi
      rw [List.getElem?_eq_getElem (show i < elems.length from by omega), Option.bind_eq_some_iff] at h1
      obtain ⟨c, hcs, hy'⟩ := h1
      obtain ⟨_, hcl, hcell⟩ := World.cells?_some hcs
      refine ⟨c, _, by omega, fun j u hj => ?_, hy', fun m hm2 => hwt _ (List.mem_map.2 ⟨_, List.getElem_mem _, rfl⟩) m hm2⟩
      have hj2 : j < P.cellsOf e := by have := (List.getElem?_eq_some_iff.1 hj).1; omega
      have := hcell j hj2
      rw [hj, hc] at this
      rw [← this, Go.Addr.add_add]
    by_cases h0 : cap = 0
    · subst h0
      obtain rfl : len = 0 := by omega
      obtain ⟨b, o, s⟩ := a
      cases s with
      | none => exact .inr (.inr ⟨b, o, 0, 0, rfl, Nat.le_refl _, Nat.zero_le _, by omega, fun i hi => absurd hi (Nat.not_lt_zero i)⟩)
      | some s => exact .inr (.inl ⟨b, o, s, rfl⟩)
    · have hspot : a.spot = none := by
        have aux : ∀ k c, k = 0 → W.cells? 0 (a.add (k * P.cellsOf e)) (P.cellsOf e) = some c → a.spot = none := by
          intro k c hk hcs
          subst hk
          obtain ⟨_, hcl, hcell⟩ := World.cells?_some hcs
          have hlt : 0 < c.length := by omega
          have h2 := hcell 0 (by omega)
          rw [List.getElem?_eq_getElem hlt] at h2
          have := (cell_lt h2).2
          simpa [Addr.add] using this
        by_cases hl0 : len = 0
        · have h1 := hr2 0 (by omega)
          rw [List.getElem?_eq_getElem (show 0 < rest.length from by omega), Option.bind_eq_some_iff] at h1
          obtain ⟨c, hcs, _⟩ := h1
          exact aux (len + 0) c (by omega) hcs
        · have h1 := hel 0 (by omega)
          rw [List.getElem?_eq_getElem (show 0 < elems.length from by omega), Option.bind_eq_some_iff] at h1
          obtain ⟨c, hcs, _⟩ := h1
          exact aux 0 c rfl hcs
      obtain ⟨b, o, s⟩ := a
      simp only at hspot
      subst hspot
      refine .inr (.inr ⟨b, o, len, cap, rfl, hl, ?_, ?_, fun i hi => ?_⟩)
      · have : maxLen = 9223372036854775807 := by decide
        omega
      · have := hw ((elems.length + rest.length) * P.bytesOf e) (by
          have e1 : (elems.map (·.1)).length = elems.length := List.length_map _
          have e2 : (rest.map (·.1)).length = rest.length := List.length_map _
          simp only [DataW.weights, ht, List.mem_cons, e1, e2]
          exact .inl trivial)
        rw [hB] at this
        have h2 : len * B ≤ (elems.length + rest.length) * B := Nat.mul_le_mul_right _ (by omega)
        exact Nat.le_trans h2 (Nat.le_trans this (by decide))
      · obtain ⟨c, z, h1, h2, h3, h4⟩ := each i hi
        exact ⟨c, n, z, h1, fun j u hj => by rw [← h2 j u hj, addA_none, Nat.add_assoc], h3, h4⟩
/-- integers that are handed in -/
theorem open_ints {t e : TypeId} (ht : P.underlying t = some (.slice e)) (he : P.underlying e = some (.int .i64)) (hc : P.cellsOf e = 1) (hB : P.bytesOf e = 8) {fuel : Nat} {cs : List Value} {y : DataW H × List MemPlace}
    (hy : DataW.trod enc P W 0 (fun _ => true) true fuel t cs = some y) (hw : ∀ n ∈ y.1.weights P t, n ≤ reachBytes) :
    ∃ (v : Value) (xs : List Int), cs = [v] ∧ (RInts ⟨W, []⟩ (e1 v) xs ∨ ∃ b o s, v = .slice (some ⟨b, o, some s⟩) 0 0 ∧ xs = []) ∧ xs.length * 8 ≤ 140737488351232 ∧ (∀ a n c, v = .slice (some a) n c → n ≤ c) ∧ plain1 (e1 v) = true ∧ ∃ a n c, v = .slice a n c := by
  rcases open_slice 8 1 ht hc hB (by decide) hy hw with rfl | ⟨b, o, s, rfl⟩ | ⟨b, o, len, cap, rfl, hl, hm, hb, each⟩
  · exact ⟨_, [], rfl, .inl (.inr ⟨rfl, rfl⟩), by simp, (fun a n c h => by cases h), rfl, _, _, _, rfl⟩
  · exact ⟨_, [], rfl, .inr ⟨b, o, s, rfl, rfl⟩, by simp, (fun a n c h => by cases h; exact Nat.le_refl _), rfl, _, _, _, rfl⟩
  · obtain ⟨xs, hxl, hxs⟩ := pick_list (Q := fun i z => look ⟨W, []⟩ ⟨b, o + i, none⟩ = some (.int .i64 z)) len (fun i hi => by
      obtain ⟨c, n, z, h1, h2, h3, _⟩ := each i hi
      obtain ⟨k, rfl, _, _⟩ := DataW.trod_int he h3
      refine ⟨k, ?_⟩
      have := h2 0 _ rfl
      simp only [Nat.mul_one, Nat.add_zero] at this
      exact look_w this rfl)
    refine ⟨_, xs, rfl, .inl (.inl ⟨b, o, cap, by rw [hxl]; rfl, by omega, hxs⟩), by rw [hxl]; exact hb, (fun a n c h => by cases h; exact hl), rfl, _, _, _, rfl⟩
end
/-- an argument's weights, out of all arguments' -/
theorem weigh {H : Type} {P : Program} {ts : List TypeId} {ds : List (DataW H)} {j : Nat} {t : TypeId} {d : DataW H} (h : (DataW.weightsEach P ts ds).all (· ≤ reachBytes) = true) (ht : ts[j]? = some t) (hd : ds[j]? = some d) : ∀ n ∈ d.weights P t, n ≤ reachBytes :=
  fun n hn => by have := List.all_eq_true.1 h n (DataW.weights_mem_each ht hd n hn); simpa using this
/-- a function that is told for whoever calls it, called from the world as it is handed in -/
theorem C0.run {P : Program} {f : FuncId} {args : List Value} {W : World} {r : Value} (h : C0 P f args ⟨W, []⟩ r) (ha : args.map (cV id) = args) (hr : cV id r = r) : Calls P f args.toArray W fun e w' => e = .returned r ∧ Below W.heap.size W w' := by
  have hS : St ⟨W, []⟩ id [] W := ⟨⟨rfl, rfl, rfl, Nat.le_refl _, fun _ _ => rfl⟩, by simp, (fun x hx => by cases hx), (fun x hx => by cases hx)⟩
  have h1 := h id W hS
  rw [ha] at h1
  exact h1.mono fun e w' ⟨v, X, h2, _, _, h3, h4, h5⟩ => by
    subst h4
    exact ⟨by rw [h2, hr], h3.below⟩
end Go.Proofs.Ytbeblgjibfoanaa.Am
namespace Go.Proofs.Ytbeblgjibfoanaa.Am
set_option linter.unusedSimpArgs false
set_option linter.unusedVariables false
set_option maxRecDepth 100000
set_option maxHeartbeats 4000000
open Go Go.RowKit
section
variable {H : Type} {enc : TypeId × Value → H} {W : World}
theorem Item.plain_cells (x : Item) {g : Value} (h : plain1 g = true) : ∀ u ∈ x.cells g, plain1 u = true := by
  intro u hu
  simp only [Item.cells, List.mem_cons, List.not_mem_nil, or_false] at hu
  rcases hu with rfl | rfl | rfl | rfl | rfl | rfl | rfl | rfl | rfl | rfl | rfl <;> first | rfl | exact h
theorem open_item {fuel : Nat} {cs : List Value} {y : DataW H × List MemPlace} (hy : DataW.trod enc Try.prog W 0 (fun _ => true) true fuel 49 cs = some y) (hw : ∀ n ∈ y.1.weights Try.prog 49, n ≤ reachBytes) :
    ∃ (x : Item) (g : Value), cs.map e1 = x.cells g ∧ plain1 g = true ∧ RGl ⟨W, []⟩ g x.glyphs ∧ x.glyphs.length * 8 ≤ 140737488351232 := by
  obtain ⟨xs, n, _, rfl, hl, hxl, hx⟩ := DataW.trod_struct Try.underlying49 hy
  rw [show Try.prog.cellsOf 49 = 11 from by kernel_rfl] at hl
  have c3 : Try.prog.cellsOf 3 = 1 := by kernel_rfl
  have c4 : Try.prog.cellsOf 4 = 1 := by kernel_rfl
  have c28 : Try.prog.cellsOf 28 = 1 := by kernel_rfl
  match cs, hl with
  | [u0, u1, u2, u3, u4, u5, u6, u7, u8, u9, u10], _ =>
    have hxl' : xs.length = 11 := hxl
    match xs, hxl' with
    | [z0, z1, z2, z3, z4, z5, z6, z7, z8, z9, z10], _ =>
      have h0 : DataW.trod enc Try.prog W 0 (fun _ => true) true n 3 (([u0, u1, u2, u3, u4, u5, u6, u7, u8, u9, u10].drop 0).take (Try.prog.cellsOf 3)) = some z0 := hx 0 _ rfl
      have h1 : DataW.trod enc Try.prog W 0 (fun _ => true) true n 3 (([u0, u1, u2, u3, u4, u5, u6, u7, u8, u9, u10].drop 1).take (Try.prog.cellsOf 3)) = some z1 := hx 1 _ rfl
      have h2 : DataW.trod enc Try.prog W 0 (fun _ => true) true n 3 (([u0, u1, u2, u3, u4, u5, u6, u7, u8, u9, u10].drop 2).take (Try.prog.cellsOf 3)) = some z2 := hx 2 _ rfl
      have h3 : DataW.trod enc Try.prog W 0 (fun _ => true) true n 3 (([u0, u1, u2, u3, u4, u5, u6, u7, u8, u9, u10].drop 3).take (Try.prog.cellsOf 3)) = some z3 := hx 3 _ rfl
      have h4 : DataW.trod enc Try.prog W 0 (fun _ => true) true n 3 (([u0, u1, u2, u3, u4, u5, u6, u7, u8, u9, u10].drop 4).take (Try.prog.cellsOf 3)) = some z4 := hx 4 _ rfl
      have h5 : DataW.trod enc Try.prog W 0 (fun _ => true) true n 4 (([u0, u1, u2, u3, u4, u5, u6, u7, u8, u9, u10].drop 5).take (Try.prog.cellsOf 4)) = some z5 := hx 5 _ rfl
      have h6 : DataW.trod enc Try.prog W 0 (fun _ => true) true n 3 (([u0, u1, u2, u3, u4, u5, u6, u7, u8, u9, u10].drop 6).take (Try.prog.cellsOf 3)) = some z6 := hx 6 _ rfl
      have h7 : DataW.trod enc Try.prog W 0 (fun _ => true) true n 3 (([u0, u1, u2, u3, u4, u5, u6, u7, u8, u9, u10].drop 7).take (Try.prog.cellsOf 3)) = some z7 := hx 7 _ rfl
      have h8 : DataW.trod enc Try.prog W 0 (fun _ => true) true n 3 (([u0, u1, u2, u3, u4, u5, u6, u7, u8, u9, u10].drop 8).take (Try.prog.cellsOf 3)) = some z8 := hx 8 _ rfl
      have h9 : DataW.trod enc Try.prog W 0 (fun _ => true) true n 3 (([u0, u1, u2, u3, u4, u5, u6, u7, u8, u9, u10].drop 9).take (Try.prog.cellsOf 3)) = some z9 := hx 9 _ rfl
      have h10 : DataW.trod enc Try.prog W 0 (fun _ => true) true n 28 (([u0, u1, u2, u3, u4, u5, u6, u7, u8, u9, u10].drop 10).take (Try.prog.cellsOf 28)) = some z10 := hx 10 _ rfl
      rw [c3] at h0 h1 h2 h3 h4 h6 h7 h8 h9
      rw [c4] at h5
      rw [c28] at h10
      obtain ⟨k0, e0', _, _⟩ := DataW.trod_int Try.underlying3 h0
      obtain ⟨k1, e1', _, _⟩ := DataW.trod_int Try.underlying3 h1
      obtain ⟨k2, e2', _, _⟩ := DataW.trod_int Try.underlying3 h2
      obtain ⟨k3, e3', _, _⟩ := DataW.trod_int Try.underlying3 h3
      obtain ⟨k4, e4', _, _⟩ := DataW.trod_int Try.underlying3 h4
      obtain ⟨k5, e5', _⟩ := DataW.trod_bool Try.underlying4 h5
      obtain ⟨k6, e6', _, _⟩ := DataW.trod_int Try.underlying3 h6
      obtain ⟨k7, e7', _, _⟩ := DataW.trod_int Try.underlying3 h7
      obtain ⟨k8, e8', _, _⟩ := DataW.trod_int Try.underlying3 h8
      obtain ⟨k9, e9', _, _⟩ := DataW.trod_int Try.underlying3 h9
      have hw10 : ∀ n ∈ z10.1.weights Try.prog 28, n ≤ reachBytes := fun n hn => hw n (by
        simp only [DataW.weights, Try.underlying49]
        exact DataW.weights_mem_each (j := 10) rfl rfl n hn)
      obtain ⟨g, gs, e10', hr, hb, _, hp, a, gl, gc, rfl⟩ := open_ints Try.underlying28 Try.underlying3 c3 (by kernel_rfl) h10 hw10
      simp only [List.drop_succ_cons, List.drop_zero, List.take_succ_cons, List.take_zero, List.cons.injEq, and_true] at e0' e1' e2' e3' e4' e5' e6' e7' e8' e9' e10'
      subst e0' e1' e2' e3' e4' e5' e6' e7' e8' e9' e10'
      refine ⟨⟨k0, k1, k2, k3, k4, k5, k6, k7, k8, k9, gs⟩, e1 (.slice a gl gc), rfl, hp, ?_, hb⟩
      rcases hr with hr | ⟨b, o, s, hr, rfl⟩
      · exact .inl hr
      · rw [hr]; exact .inr ⟨b, o, s, rfl, rfl⟩
theorem open_items {fuel : Nat} {cs : List Value} {y : DataW H × List MemPlace} (hy : DataW.trod enc Try.prog W 0 (fun _ => true) true fuel 22 cs = some y) (hw : ∀ n ∈ y.1.weights Try.prog 22, n ≤ reachBytes) (hs : ∀ b o s n c, cs ≠ [.slice (some ⟨b, o, some s⟩) n c]) :
    ∃ (v : Value) (l : List Item), cs = [v] ∧ RItems ⟨W, []⟩ v l ∧ (∀ x ∈ l, x.glyphs.length * 8 ≤ 140737488355328) := by
  rcases open_slice 104 11 Try.underlying22 (by kernel_rfl) (by kernel_rfl) (by decide) hy hw with rfl | ⟨b, o, s, rfl⟩ | ⟨b, o, len, cap, rfl, hl, hm, hb, each⟩
  · exact ⟨_, [], rfl, .inr ⟨rfl, rfl⟩, fun x hx => by cases hx⟩
  · exact absurd rfl (hs b o s 0 0)
  · obtain ⟨l, hll, hls⟩ := pick_list (Q := fun i (x : Item) => (∃ g, lookN ⟨W, []⟩ ⟨b, o + i * 11, none⟩ 11 = some (x.cells g) ∧ RGl ⟨W, []⟩ g x.glyphs) ∧ x.glyphs.length * 8 ≤ 140737488351232) len (fun i hi => by
      obtain ⟨c, n, z, h1, h2, h3, h4⟩ := each i hi
      obtain ⟨x, g, hc, hp, hg, hgb⟩ := open_item h3 h4
      refine ⟨x, ⟨g, ?_, hg⟩, hgb⟩
      have := lookN_of (F := ⟨W, []⟩) (a := ⟨b, o + i * 11, none⟩) (cs := x.cells g) (fun j v hv => by
        rw [← hc, List.getElem?_map] at hv
        cases hu : c[j]? with
        | none => simp [hu] at hv
        | some u =>
          simp only [hu, Option.map_some, Option.some.injEq] at hv
          subst hv
          exact look_w (h2 j u hu) (Item.plain_cells x hp _ (by rw [← hc]; exact List.mem_map.2 ⟨u, List.mem_of_getElem? hu, rfl⟩)))
      exact this)
    refine ⟨_, l, rfl, .inl ⟨b, o, cap, by rw [hll], by omega, fun i x hx => (hls i x hx).1⟩, fun x hx => ?_⟩
    obtain ⟨i, hi⟩ := List.getElem?_of_mem hx
    have := (hls i x hi).2
    omega
theorem open_par {fuel : Nat} {cs : List Value} {y : DataW H × List MemPlace} (hy : DataW.trod enc Try.prog W 0 (fun _ => true) true fuel 24 cs = some y) : ∃ x : Par, (.agg ⟨cs⟩ : Value) = x.v := by
  obtain ⟨xs, n, _, rfl, hl, hxl, hx⟩ := DataW.trod_struct Try.underlying24 hy
  rw [show Try.prog.cellsOf 24 = 5 from by kernel_rfl] at hl
  have c3 : Try.prog.cellsOf 3 = 1 := by kernel_rfl
  match cs, hl with
  | [u0, u1, u2, u3, u4], _ =>
    have hxl' : xs.length = 5 := hxl
    match xs, hxl' with
    | [z0, z1, z2, z3, z4], _ =>
      have h0 : DataW.trod enc Try.prog W 0 (fun _ => true) true n 3 (([u0, u1, u2, u3, u4].drop 0).take (Try.prog.cellsOf 3)) = some z0 := hx 0 _ rfl
      have h1 : DataW.trod enc Try.prog W 0 (fun _ => true) true n 3 (([u0, u1, u2, u3, u4].drop 1).take (Try.prog.cellsOf 3)) = some z1 := hx 1 _ rfl
      have h2 : DataW.trod enc Try.prog W 0 (fun _ => true) true n 3 (([u0, u1, u2, u3, u4].drop 2).take (Try.prog.cellsOf 3)) = some z2 := hx 2 _ rfl
      have h3 : DataW.trod enc Try.prog W 0 (fun _ => true) true n 3 (([u0, u1, u2, u3, u4].drop 3).take (Try.prog.cellsOf 3)) = some z3 := hx 3 _ rfl
      have h4 : DataW.trod enc Try.prog W 0 (fun _ => true) true n 3 (([u0, u1, u2, u3, u4].drop 4).take (Try.prog.cellsOf 3)) = some z4 := hx 4 _ rfl
      rw [c3] at h0 h1 h2 h3 h4
      obtain ⟨k0, e0', _, _⟩ := DataW.trod_int Try.underlying3 h0
      obtain ⟨k1, e1', _, _⟩ := DataW.trod_int Try.underlying3 h1
      obtain ⟨k2, e2', _, _⟩ := DataW.trod_int Try.underlying3 h2
      obtain ⟨k3, e3', _, _⟩ := DataW.trod_int Try.underlying3 h3
      obtain ⟨k4, e4', _, _⟩ := DataW.trod_int Try.underlying3 h4
      simp only [List.drop_succ_cons, List.drop_zero, List.take_succ_cons, List.take_zero, List.cons.injEq, and_true] at e0' e1' e2' e3' e4'
      subst e0' e1' e2' e3' e4'
      exact ⟨⟨k0, k1, k2, k3, k4⟩, rfl⟩
theorem open_pair {fuel : Nat} {cs : List Value} {y : DataW H × List MemPlace} (hy : DataW.trod enc Try.prog W 0 (fun _ => true) true fuel 52 cs = some y) : ∃ a b : Int, (.agg ⟨cs⟩ : Value) = .agg #[.int .i64 a, .int .i64 b] := by
  obtain ⟨xs, n, _, rfl, hl, hxl, hx⟩ := DataW.trod_struct Try.underlying52 hy
  rw [show Try.prog.cellsOf 52 = 2 from by kernel_rfl] at hl
  have c3 : Try.prog.cellsOf 3 = 1 := by kernel_rfl
  match cs, hl with
  | [u0, u1], _ =>
    have hxl' : xs.length = 2 := hxl
    match xs, hxl' with
    | [z0, z1], _ =>
      have h0 : DataW.trod enc Try.prog W 0 (fun _ => true) true n 3 (([u0, u1].drop 0).take (Try.prog.cellsOf 3)) = some z0 := hx 0 _ rfl
      have h1 : DataW.trod enc Try.prog W 0 (fun _ => true) true n 3 (([u0, u1].drop 1).take (Try.prog.cellsOf 3)) = some z1 := hx 1 _ rfl
      rw [c3] at h0 h1
      obtain ⟨k0, e0', _, _⟩ := DataW.trod_int Try.underlying3 h0
      obtain ⟨k1, e1', _, _⟩ := DataW.trod_int Try.underlying3 h1
      simp only [List.drop_succ_cons, List.drop_zero, List.take_succ_cons, List.take_zero, List.cons.injEq, and_true] at e0' e1'
      subst e0' e1'
      exact ⟨k0, k1, rfl⟩
end

end Go.Proofs.Ytbeblgjibfoanaa.Am
namespace Go.Proofs.Ytbeblgjibfoanaa.Am
set_option linter.unusedSimpArgs false
set_option linter.unusedVariables false
open Go Go.RowKit
/-! Kinds of data, told by what is read; what is handed in reads as its kind. -/
structure Knd (α : Type) where
  sz : Nat
  R : Mem → List Value → α → Prop
  len : ∀ {F : Mem} {cs : List Value} {x : α}, R F cs x → cs.length = sz
  le : ∀ {F F' : Mem} {cs : List Value} {x : α}, F.le F' → R F cs x → R F' cs x
theorem lookN_le {F F' : Mem} (hl : F.le F') : ∀ {n : Nat} {a : Addr} {cs : List Value}, lookN F a n = some cs → lookN F' a n = some cs := by
  intro n
  induction n with
  | zero => intro a cs h; exact h
  | succ n ih =>
    intro a cs h
    simp only [lookN] at h ⊢
    split at h <;> try (simp at h; done)
    rename_i v hv
    split at h <;> try (simp at h; done)
    rename_i cs' hcs
    rw [hl _ _ hv, ih hcs]; exact h
/-- a slice, told by what stands in it -/
def Knd.S {α : Type} (k : Knd α) (F : Mem) (v : Value) (xs : List α) : Prop :=
  (∃ b off c, v = .slice (some ⟨b, off, none⟩) xs.length c ∧ xs.length ≤ 9223372036854775807 ∧ ∀ i x, xs[i]? = some x → ∃ cs, lookN F ⟨b, off + i * k.sz, none⟩ k.sz = some cs ∧ k.R F cs x) ∨ (v = .slice none 0 0 ∧ xs = [])
theorem Knd.S.le {α : Type} {k : Knd α} {F F' : Mem} {v : Value} {xs : List α} (h : k.S F v xs) (hl : F.le F') : k.S F' v xs := by
  rcases h with ⟨b, off, c, h1, h2, h3⟩ | h
  · exact .inl ⟨b, off, c, h1, h2, fun i x hx => by obtain ⟨cs, hc, hr⟩ := h3 i x hx; exact ⟨cs, lookN_le hl hc, k.le hl hr⟩⟩
  · exact .inr h
def Knd.int (j : IntKind) : Knd Int where
  sz := 1
  R _ cs x := cs = [.int j x]
  len h := by rw [h]; rfl
  le _ h := h
def Knd.bool : Knd Bool where
  sz := 1
  R _ cs x := cs = [.bool x]
  len h := by rw [h]; rfl
  le _ h := h
def Knd.string : Knd ByteArray where
  sz := 1
  R _ cs x := cs = [.string x]
  len h := by rw [h]; rfl
  le _ h := h
/-- a slice in a cell: of nothing, the address may be any -/
def Knd.slice {α : Type} (k : Knd α) : Knd (List α) where
  sz := 1
  R F cs xs := ∃ v, cs = [v] ∧ (k.S F v xs ∨ ∃ b o s, v = .slice (some ⟨b, o, some (s + 1)⟩) 0 0 ∧ xs = [])
  len h := by obtain ⟨v, rfl, _⟩ := h; rfl
  le hl h := by
    obtain ⟨v, e, h⟩ := h
    exact ⟨v, e, h.imp (·.le hl) id⟩
def Knd.pair {α β : Type} (k : Knd α) (j : Knd β) : Knd (α × β) where
  sz := k.sz + j.sz
  R F cs x := ∃ c1 c2, cs = c1 ++ c2 ∧ k.R F c1 x.1 ∧ j.R F c2 x.2
  len h := by obtain ⟨c1, c2, rfl, h1, h2⟩ := h; rw [List.length_append, k.len h1, j.len h2]
  le hl h := by
    obtain ⟨c1, c2, e, h1, h2⟩ := h
    exact ⟨c1, c2, e, k.le hl h1, j.le hl h2⟩
def Knd.iso {α β : Type} (k : Knd α) (f : β → α) : Knd β where
  sz := k.sz
  R F cs x := k.R F cs (f x)
  len h := k.len h
  le hl h := k.le hl h
section
variable {H : Type} {enc : TypeId × Value → H} {P : Program} {W : World}
def Opens {α : Type} (enc : TypeId × Value → H) (P : Program) (W : World) (t : TypeId) (k : Knd α) (G : α → Prop) : Prop :=
  ∀ (fuel : Nat) (cs : List Value) (y : DataW H × List MemPlace), DataW.trod enc P W 0 (fun _ => true) true fuel t cs = some y → (∀ n ∈ y.1.weights P t, n ≤ reachBytes) → ∃ x, k.R ⟨W, []⟩ (cs.map e1) x ∧ (∀ u ∈ cs, plain1 (e1 u) = true) ∧ G x
theorem opens_int {t : TypeId} {k : IntKind} (ht : P.underlying t = some (.int k)) : Opens enc P W t (Knd.int k) (fun n => (Lit.int k n).wf = true) := by
  intro fuel cs y h _
  obtain ⟨n, rfl, _, hw⟩ := DataW.trod_int ht h
  exact ⟨n, rfl, fun u hu => by simp only [List.mem_singleton] at hu; subst hu; rfl, hw⟩
theorem opens_bool {t : TypeId} (ht : P.underlying t = some .bool) : Opens enc P W t Knd.bool (fun _ => True) := by
  intro fuel cs y h _
  obtain ⟨b, rfl, _⟩ := DataW.trod_bool ht h
  exact ⟨b, rfl, fun u hu => by simp only [List.mem_singleton] at hu; subst hu; rfl, trivial⟩
theorem opens_string {t : TypeId} (ht : P.underlying t = some .string) : Opens enc P W t Knd.string (fun s => s.size ≤ 140737488351232) := by
  intro fuel cs y h hw
  obtain ⟨s, rfl, rfl, _⟩ := DataW.trod_string ht h
  refine ⟨s, rfl, fun u hu => by simp only [List.mem_singleton] at hu; subst hu; rfl, ?_⟩
  have := hw s.data.toList.length (by simp [DataW.weights])
  rw [Array.length_toList] at this
  exact Nat.le_trans this (by decide)
theorem opens_iso {α β : Type} {t : TypeId} {k : Knd α} {G : α → Prop} {f : β → α} (g : α → β) (hf : ∀ p, f (g p) = p) (h : Opens enc P W t k G) : Opens enc P W t (k.iso f) (fun x => G (f x)) := by
  intro fuel cs y hy hw
  obtain ⟨p, hK, hp, hG⟩ := h fuel cs y hy hw
  refine ⟨g p, ?_, hp, ?_⟩
  · show k.R _ _ (f (g p))
    rw [hf]; exact hK
  · show G (f (g p))
    rw [hf]; exact hG
theorem opens_weak {α : Type} {t : TypeId} {k : Knd α} {G G' : α → Prop} (h : Opens enc P W t k G) (hg : ∀ x, G x → G' x) : Opens enc P W t k G' := by
  intro fuel cs y hy hw
  obtain ⟨p, hK, hp, hG⟩ := h fuel cs y hy hw
  exact ⟨p, hK, hp, hg _ hG⟩
/-- the rows of a slice that is handed in -/
theorem opens_rows {α : Type} {t e : TypeId} {k : Knd α} {G : α → Prop} (B : Nat) (ht : P.underlying t = some (.slice e)) (hc : P.cellsOf e = k.sz) (hB : P.bytesOf e = B) (hsz : 0 < k.sz) (h : Opens enc P W e k G) {fuel : Nat} {cs : List Value} {y : DataW H × List MemPlace}
    (hy : DataW.trod enc P W 0 (fun _ => true) true fuel t cs = some y) (hw : ∀ n ∈ y.1.weights P t, n ≤ reachBytes) :
    ∃ (v : Value) (xs : List α), cs = [v] ∧ (k.S ⟨W, []⟩ (e1 v) xs ∨ ∃ b o s, v = .slice (some ⟨b, o, some s⟩) 0 0 ∧ xs = []) ∧ plain1 (e1 v) = true ∧ (∀ x ∈ xs, G x) ∧ xs.length * B ≤ 140737488351232 ∧ ∀ a n c, v = .slice a n c → n ≤ c := by
  rcases open_slice B k.sz ht hc hB hsz hy hw with rfl | ⟨b, o, s, rfl⟩ | ⟨b, o, len, cap, rfl, hl, hm, hb, each⟩
  · exact ⟨_, [], rfl, .inl (.inr ⟨rfl, rfl⟩), rfl, fun x hx => (by cases hx), by simp, fun a n c e => by simp only [Value.slice.injEq] at e; omega⟩
  · exact ⟨_, [], rfl, .inr ⟨b, o, s, rfl, rfl⟩, rfl, fun x hx => (by cases hx), by simp, fun a n c e => by simp only [Value.slice.injEq] at e; omega⟩
  · obtain ⟨xs, hll, hls⟩ := pick_list (Q := fun i (x : α) => (∃ cs, lookN ⟨W, []⟩ ⟨b, o + i * k.sz, none⟩ k.sz = some cs ∧ k.R ⟨W, []⟩ cs x) ∧ G x) len (fun i hi => by
      obtain ⟨c, n, z, h1, h2, h3, h4⟩ := each i hi
      obtain ⟨x, hR, hp, hG⟩ := h n c z h3 h4
      refine ⟨x, ⟨c.map e1, ?_, hR⟩, hG⟩
      have := lookN_of (F := ⟨W, []⟩) (a := ⟨b, o + i * k.sz, none⟩) (cs := c.map e1) (fun j v hv => by
        rw [List.getElem?_map] at hv
        cases hu : c[j]? with
        | none => simp [hu] at hv
        | some u =>
          simp only [hu, Option.map_some, Option.some.injEq] at hv
          subst hv
          exact look_w (h2 j u hu) (hp u (List.mem_of_getElem? hu)))
      rw [List.length_map, h1] at this
      exact this)
    refine ⟨_, xs, rfl, .inl (.inl ⟨b, o, cap, by rw [hll]; rfl, by omega, fun i x hx => (hls i x hx).1⟩), rfl, fun x hx => ?_, by rw [hll]; exact hb, fun a n c e => by simp only [Value.slice.injEq] at e; omega⟩
    obtain ⟨i, hi⟩ := List.getElem?_of_mem hx
    exact (hls i x hi).2
theorem opens_slice {α : Type} {t e : TypeId} {k : Knd α} {G : α → Prop} (B : Nat) (ht : P.underlying t = some (.slice e)) (hc : P.cellsOf e = k.sz) (hB : P.bytesOf e = B) (hsz : 0 < k.sz) (h : Opens enc P W e k G) :
    Opens enc P W t k.slice (fun xs => (∀ x ∈ xs, G x) ∧ xs.length * B ≤ 140737488351232) := by
  intro fuel cs y hy hw
  obtain ⟨v, xs, rfl, hS, hp, hG, hb, _⟩ := opens_rows B ht hc hB hsz h hy hw
  refine ⟨xs, ⟨e1 v, rfl, ?_⟩, fun u hu => by simp only [List.mem_singleton] at hu; subst hu; exact hp, hG, hb⟩
  rcases hS with hS | ⟨b, o, s, rfl, rfl⟩
  · exact .inl hS
  · exact .inr ⟨b, o, s, rfl, rfl⟩
/-- the cells of some fields, one behind the other -/
def catF (P : Program) (cs : List Value) : List Field → List Value
  | [] => []
  | f :: fs => (cs.drop f.offset).take (P.cellsOf f.type) ++ catF P cs fs
def OpensF {α : Type} (enc : TypeId × Value → H) (P : Program) (W : World) (fs : List Field) (k : Knd α) (G : α → Prop) : Prop :=
  ∀ (fuel : Nat) (cs : List Value) (xs : List (DataW H × List MemPlace)), xs.length = fs.length → (∀ (i : Nat) (f : Field), fs[i]? = some f → DataW.trod enc P W 0 (fun _ => true) true fuel f.type ((cs.drop f.offset).take (P.cellsOf f.type)) = xs[i]?) →
    (∀ n ∈ DataW.weightsEach P (fs.map (·.type)) (xs.map (·.1)), n ≤ reachBytes) → ∃ x, k.R ⟨W, []⟩ ((catF P cs fs).map e1) x ∧ (∀ u ∈ catF P cs fs, plain1 (e1 u) = true) ∧ G x
theorem opensF_one {α : Type} {f : Field} {k : Knd α} {G : α → Prop} (h : Opens enc P W f.type k G) : OpensF enc P W [f] k G := by
  intro fuel cs xs hl hf hw
  match xs, hl with
  | [y], _ =>
    obtain ⟨x, hK, hp, hG⟩ := h fuel _ y (hf 0 f rfl) (fun n hn => hw n (by simp only [List.map_cons, List.map_nil, DataW.weightsEach, List.mem_append]; exact .inl hn))
    exact ⟨x, by simpa [catF] using hK, fun u hu => hp u (by simpa [catF] using hu), hG⟩
theorem opensF_cons {α β : Type} {f : Field} {fs : List Field} {k : Knd α} {k2 : Knd β} {G : α → Prop} {G2 : β → Prop} (h : Opens enc P W f.type k G) (h2 : OpensF enc P W fs k2 G2) : OpensF enc P W (f :: fs) (k.pair k2) (fun x => G x.1 ∧ G2 x.2) := by
  intro fuel cs xs hl hf hw
  match xs, hl with
  | y :: ys, hl =>
    obtain ⟨x, hK, hp, hG⟩ := h fuel _ y (hf 0 f rfl) (fun n hn => hw n (by simp only [List.map_cons, DataW.weightsEach, List.mem_append]; exact .inl hn))
    obtain ⟨x2, hK2, hp2, hG2⟩ := h2 fuel cs ys (by simpa using hl) (fun i g hg => hf (i + 1) g hg) (fun n hn => hw n (by simp only [List.map_cons, DataW.weightsEach, List.mem_append]; exact .inr hn))
    exact ⟨(x, x2), ⟨_, _, List.map_append, hK, hK2⟩, fun u hu => by
      simp only [catF, List.mem_append] at hu
      rcases hu with hu | hu
      · exact hp u hu
      · exact hp2 u hu, hG, hG2⟩
/-- the fields stand one behind the other from o on; how many cells they take -/
def contig (P : Program) : Nat → List Field → Option Nat
  | o, [] => some o
  | o, f :: fs => if f.offset = o then contig P (o + P.cellsOf f.type) fs else none
theorem catF_contig (cs : List Value) : ∀ (fs : List Field) (o m : Nat), contig P o fs = some m → m ≤ cs.length → catF P cs fs = (cs.drop o).take (m - o) ∧ o ≤ m := by
  intro fs
  induction fs with
  | nil => intro o m h hm; simp only [contig, Option.some.injEq] at h; subst h; simp [catF]
  | cons f fs ih =>
    intro o m h hm
    simp only [contig] at h
    split at h
    · rename_i ho
      obtain ⟨e, h1⟩ := ih _ _ h hm
      refine ⟨?_, by omega⟩
      simp only [catF]
      rw [e, ho, show m - o = P.cellsOf f.type + (m - (o + P.cellsOf f.type)) from by omega, List.take_add, List.drop_drop]
    · exact absurd h (by simp)
theorem opens_struct {α : Type} {t : TypeId} {fs : Array Field} {k : Knd α} {G : α → Prop} (ht : P.underlying t = some (.struct fs)) (hcon : contig P 0 fs.toList = some (P.cellsOf t)) (h : OpensF enc P W fs.toList k G) : Opens enc P W t k G := by
  intro fuel cs y hy hw
  obtain ⟨xs, n, _, rfl, hl, hxl, hx⟩ := DataW.trod_struct ht hy
  obtain ⟨x, hK, hp, hG⟩ := h n cs xs (by simpa using hxl) (fun i f hf => hx i f (by simpa using hf)) (fun m hm => hw m (by simp only [DataW.weights, ht]; exact hm))
  obtain ⟨e, _⟩ := catF_contig (P := P) cs fs.toList 0 _ hcon (by omega)
  have e2 : catF P cs fs.toList = cs := by rw [e]; simp [← hl]
  rw [e2] at hK hp
  exact ⟨x, hK, hp, hG⟩
/-- a value that is handed in, as it is told -/
def eV : Value → Value
  | .agg cs => .agg ⟨cs.toList.map e1⟩
  | v => e1 v
theorem cV_eV {v : Value} (h : ∀ vs, v ≠ .tuple vs) : cV id (eV v) = v := by
  cases v with
  | agg cs =>
    have : (⟨cs.toList.map e1⟩ : Array Value).map (c1 id) = cs := by
      apply Array.ext'
      simp only [Array.toList_map, List.map_map]
      conv => rhs; rw [← List.map_id cs.toList]
      exact List.map_congr_left fun v _ => c1_e1 id v
    show cV id (.agg ⟨cs.toList.map e1⟩) = .agg cs
    rw [cV_agg, this]
  | tuple vs => exact absurd rfl (h vs)
  | func fn x y => exact c1_e1 id (.func fn x y)
  | pointer a => cases a with
    | none => rfl
    | some a => exact c1_e1 id (.pointer (some a))
  | slice a n c => cases a with
    | none => rfl
    | some a => exact c1_e1 id (.slice (some a) n c)
  | _ => rfl
/-- an argument, opened -/
theorem opened {α : Type} {t : TypeId} {k : Knd α} {G : α → Prop} {v : Value} {d : DataW H} {ps : List MemPlace} (h : Opens enc P W t k G) (ht : DataW.Trod enc P W 0 (fun _ => true) true t v d ps) (hw : ∀ n ∈ d.weights P t, n ≤ reachBytes) : ∃ x, k.R ⟨W, []⟩ (v.cells.toList.map e1) x ∧ G x := by
  obtain ⟨fuel, hf⟩ := ht
  obtain ⟨x, h1, _, h2⟩ := h fuel _ _ hf hw
  exact ⟨x, h1, h2⟩
/-- a slice that is an argument itself -/
theorem openedS {α : Type} {t e : TypeId} {k : Knd α} {G : α → Prop} (B : Nat) (ht : P.underlying t = some (.slice e)) (hc : P.cellsOf e = k.sz) (hB : P.bytesOf e = B) (hsz : 0 < k.sz) (h : Opens enc P W e k G) {v : Value} {d : DataW H} {ps : List MemPlace} {a : Option Addr} {n c : Nat} (hv : v = .slice a n c) (hs : ∀ a n c, v = .slice (some a) n c → a.spot = none)
    (hd : DataW.Trod enc P W 0 (fun _ => true) true t v d ps) (hw : ∀ n ∈ d.weights P t, n ≤ reachBytes) : ∃ xs : List α, k.S ⟨W, []⟩ v xs ∧ eV v = v ∧ (∀ x ∈ xs, G x) ∧ xs.length * B ≤ 140737488351232 ∧ ∀ a n c, v = .slice a n c → n ≤ c := by
  obtain ⟨fuel, hf⟩ := hd
  subst hv
  obtain ⟨v, xs, e0, hS, hp, hG, hb, hc⟩ := opens_rows B ht hc hB hsz h hf hw
  have e0' : [Value.slice a n c] = [v] := e0
  obtain rfl : Value.slice a n c = v := (List.cons.inj e0').1
  have he : e1 (.slice a n c) = .slice a n c := by
    cases a with
    | none => rfl
    | some a =>
      have := hs a n c rfl
      obtain ⟨b, o, s⟩ := a
      simp only at this
      subst this
      rfl
  refine ⟨xs, ?_, he, hG, hb, hc⟩
  rcases hS with hS | ⟨b, o, s, hS, _⟩
  · rw [he] at hS; exact hS
  · have := hs _ _ _ hS
    cases this
end
/-- a function that is told for whoever calls it, called from the world as it is handed in -/
theorem C0.run_e {P : Program} {f : FuncId} {args : List Value} {W : World} {r : Value} (h : C0 P f (args.map eV) ⟨W, []⟩ r) (ha : ∀ v ∈ args, ∀ vs, v ≠ .tuple vs) (hr : cV id r = r) : Calls P f args.toArray W fun e w' => e = .returned r ∧ Below W.heap.size W w' := by
  have e : (args.map eV).map (cV id) = args := by
    rw [List.map_map]
    conv => rhs; rw [← List.map_id args]
    exact List.map_congr_left fun v hv => cV_eV (ha v hv)
  have := C0.run (P := P) (f := f) (args := args.map eV) (W := W) (r := r)
  obtain h2 := h id W (St.none W id)
  rw [e] at h2
  refine h2.mono fun x w' ⟨v, X, h1, _, _, h3, h4, h5⟩ => ?_
  subst h4 h5
  exact ⟨by rw [h1, hr], h3.below⟩
end Go.Proofs.Ytbeblgjibfoanaa.Am
namespace Go.Proofs.Ytbeblgjibfoanaa.Am
set_option linter.unusedSimpArgs false
set_option linter.unusedVariables false
set_option maxRecDepth 100000
set_option maxHeartbeats 4000000
open Go Go.RowKit
def kItem : Knd Item where
  sz := 11
  R F cs x := ∃ g, cs = x.cells g ∧ RGl F g x.glyphs
  len h := by obtain ⟨g, rfl, _⟩ := h; rfl
  le hl h := by obtain ⟨g, e, h⟩ := h; exact ⟨g, e, h.le hl⟩
theorem RItems.ofS {F : Mem} {v : Value} {l : List Item} (h : kItem.S F v l) : RItems F v l := by
  rcases h with ⟨b, off, c, h1, h2, h3⟩ | h
  · refine .inl ⟨b, off, c, h1, h2, fun i x hx => ?_⟩
    obtain ⟨cs, hc, g, rfl, hg⟩ := h3 i x hx
    exact ⟨g, hc, hg⟩
  · exact .inr h
theorem lookN_one {F : Mem} {a : Addr} {v : Value} (h : lookN F a 1 = some [v]) : look F a = some v := by
  simp only [lookN] at h
  split at h <;> simp at h
  rename_i u hu
  rw [hu, h]
theorem RInts.ofS {F : Mem} {v : Value} {xs : List Int} (h : (Knd.int .i64).S F v xs) : RInts F v xs := by
  rcases h with ⟨b, off, c, h1, h2, h3⟩ | h
  · refine .inl ⟨b, off, c, h1, h2, fun i x hx => ?_⟩
    obtain ⟨cs, hc, rfl⟩ := h3 i x hx
    have := lookN_one hc
    rwa [show i * (Knd.int .i64).sz = i from Nat.mul_one i] at this
  · exact .inr h
def kPar : Knd Par where
  sz := 5
  R _ cs x := Value.agg ⟨cs⟩ = x.v
  len h := by
    have e := congrArg (fun v => (cellsL v).length) h
    exact e
  le _ h := h
section
variable {H : Type} {enc : TypeId × Value → H} {W : World}
theorem opItem : Opens enc Try.prog W 49 kItem (fun x => x.glyphs.length * 8 ≤ 140737488355328) := by
  intro fuel cs y hy hw
  obtain ⟨x, g, hc, hp, hg, hb⟩ := open_item hy hw
  refine ⟨x, ⟨g, hc, hg⟩, fun u hu => Item.plain_cells x hp _ ?_, by omega⟩
  rw [← hc]; exact List.mem_map.2 ⟨u, hu, rfl⟩
theorem opPar : Opens enc Try.prog W 24 kPar (fun _ => True) := by
  intro fuel cs y hy hw
  obtain ⟨x, hx⟩ := open_par hy
  have hx' : cs = (cellsL x.v) := congrArg cellsL hx
  refine ⟨x, ?_, ?_, trivial⟩
  · show Value.agg ⟨cs.map e1⟩ = x.v
    rw [hx']; rfl
  · rw [hx']
    intro u hu
    simp only [Par.v, cellsL, List.mem_cons, List.not_mem_nil, or_false] at hu
    rcases hu with rfl | rfl | rfl | rfl | rfl <;> rfl
end

end Go.Proofs.Ytbeblgjibfoanaa.Am
namespace Go.Proofs.Ytbeblgjibfoanaa.Am
set_option linter.unusedSimpArgs false
set_option linter.unusedVariables false
set_option maxRecDepth 100000
set_option maxHeartbeats 4000000
open Go Go.RowKit
theorem Item.cells_len (x : Item) (g : Value) : (x.cells g).length = 11 := rfl
theorem Item.cells_plain (x : Item) {g : Value} (h : plain1 g = true) : ∀ u ∈ x.cells g, plain1 u = true := by
  intro u hu
  simp only [Item.cells, List.mem_cons, List.not_mem_nil, or_false] at hu
  rcases hu with rfl | rfl | rfl | rfl | rfl | rfl | rfl | rfl | rfl | rfl | rfl <;> first | rfl | exact h
/-- rows that hold copies of some items -/
def CpR (l : List Item) (Y : List (Nat × Row)) (gs : List Value) : Prop := ∀ i g, gs[i]? = some g → plain1 g = true ∧ ∀ G, Rd G Y → RInts G g (at_ l i).glyphs
def cellsG (l : List Item) (gs : List Value) : List (List Value) := (List.range gs.length).map fun i => (at_ l i).cells (gs.getD i .nilFunc)
theorem cellsG_snoc (l : List Item) (gs : List Value) (g : Value) : (cellsG l (gs ++ [g])).flatten = (cellsG l gs).flatten ++ (at_ l gs.length).cells g := by
  unfold cellsG
  rw [List.length_append, List.length_singleton, List.range_succ, List.map_append, List.flatten_append]
  congr 1
  · congr 1
    apply List.map_congr_left
    intro i hi
    have : i < gs.length := List.mem_range.1 hi
    simp [List.getD_eq_getElem?_getD, List.getElem?_append_left this]
  · simp [List.getD_eq_getElem?_getD]
theorem CpR.snoc {l : List Item} {Y Z : List (Nat × Row)} {gs : List Value} {g : Value} (h : CpR l Y gs) (hp : plain1 g = true) (hg : ∀ G, Rd G (Z ++ Y) → RInts G g (at_ l gs.length).glyphs) : CpR l (Z ++ Y) (gs ++ [g]) := by
  intro i u hu
  by_cases hi : i < gs.length
  · rw [List.getElem?_append_left hi] at hu
    obtain ⟨h1, h2⟩ := h i u hu
    exact ⟨h1, fun G hG => h2 G hG.app_right⟩
  · have hl := (List.getElem?_eq_some_iff.1 hu).1
    simp at hl
    obtain rfl : i = gs.length := by omega
    simp at hu
    subst hu
    exact ⟨hp, hg⟩
theorem CpR.step {l : List Item} {Y Z : List (Nat × Row)} {gs cs news : List Value} {k : Nat} {x : Item} {g : Value} (hgs : gs.length = k) (hcs : cs = (cellsG l gs).flatten) (hcp : CpR l Y gs) (hk : k < l.length) (hx : at_ l k = x) (hn : news = x.cells g) (hp : plain1 g = true) (hg : ∀ G, Rd G (Z ++ Y) → RInts G g x.glyphs) :
    ∃ gs', gs'.length = k + 1 ∧ cs ++ news = (cellsG l gs').flatten ∧ CpR l (Z ++ Y) gs' := by
  subst hgs hcs hn hx
  exact ⟨gs ++ [g], by simp, (cellsG_snoc l gs g).symm, hcp.snoc hp hg⟩
theorem Rd.ivsW {G : Mem} {Y : List (Nat × Row)} (h : Rd G Y) {b n c : Nat} {r : Row} {xs : List Int} (hm : (b, r) ∈ Y) (hcs : r.cs = Am.ivs xs) (hn : n = xs.length) (hl : xs.length ≤ 9223372036854775807) : RInts G (.slice (some ⟨b, 0, none⟩) n c) xs := by
  subst hn
  refine .inl ⟨b, 0, c, rfl, hl, fun i x hx => ?_⟩
  rw [Nat.zero_add]
  refine h _ hm i _ ?_
  rw [hcs]
  exact ivs_get hx
theorem cellsG_row {l : List Item} {gs : List Value} {i : Nat} {g : Value} (h : gs[i]? = some g) : (cellsG l gs)[i]? = some ((at_ l i).cells g) := by
  have hi := (List.getElem?_eq_some_iff.1 h).1
  unfold cellsG
  simp only [List.getElem?_map, List.getElem?_range hi, Option.map_some, List.getD_eq_getElem?_getD, h, Option.getD_some]
theorem cs_c {l : List Item} {Y : List (Nat × Row)} {gs cs : List Value} (h : CpR l Y gs) (hcs : cs = (cellsG l gs).flatten) (ι : Nat → Nat) : cs.map (r1 ι) = cs := by
  conv => rhs; rw [← List.map_id cs]
  refine List.map_congr_left fun u hu => r1_plain ι ?_
  rw [hcs] at hu
  obtain ⟨y, hy, hu⟩ := List.mem_flatten.1 hu
  obtain ⟨i, hi, rfl⟩ := List.mem_map.1 hy
  have hil := List.mem_range.1 hi
  refine Item.cells_plain _ (h i _ ?_).1 u hu
  simp [List.getD_eq_getElem?_getD, List.getElem?_eq_getElem hil]
theorem Copied {G : Mem} {Y : List (Nat × Row)} {l : List Item} {gs : List Value} {b c : Nat} {r : Row} (h : CpR l Y gs) (hl : gs.length = l.length) (hcs : r.cs = (cellsG l gs).flatten) (hG : Rd G ((b, r) :: Y)) (hb : l.length ≤ 9223372036854775807) : RItems G (.slice (some ⟨b, 0, none⟩) l.length c) l := by
  refine .inl ⟨b, 0, c, rfl, hb, fun i x hx => ?_⟩
  have hi := (List.getElem?_eq_some_iff.1 hx).1
  obtain ⟨g, hg⟩ : ∃ g, gs[i]? = some g := ⟨_, List.getElem?_eq_getElem (by omega)⟩
  have hxe : at_ l i = x := by simp [at_, List.getD_eq_getElem?_getD, hx]
  obtain ⟨h1, h2⟩ := h i g hg
  rw [hxe] at h2
  refine ⟨g, ?_, .inl (h2 G (Rd.app_right (Z := [(b, r)]) hG))⟩
  have := lookN_of (F := G) (a := ⟨b, 0 + i * 11, none⟩) (cs := x.cells g) (fun j v hv => by
    have hj : j < 11 := by have := (List.getElem?_eq_some_iff.1 hv).1; rwa [Item.cells_len] at this
    refine hG (b, r) List.mem_cons_self (0 + i * 11 + j) v ?_
    rw [hcs, Nat.zero_add, flat_at (fun y hy => by
      obtain ⟨k, _, rfl⟩ := List.mem_map.1 hy
      exact Item.cells_len _ _) hj, cellsG_row hg, hxe]
    exact hv)
  rwa [Item.cells_len] at this
theorem Copy_C (F : Mem) (v : Value) (l : List Item) (hv : RItems F v l) (hl3 : l.length ≤ 3000) (hgl : ∀ x ∈ l, x.glyphs.length * 8 ≤ 140737488355328) : C Try.prog 12 [v] F (fun u Y => SlV u ∧ ∀ G, Rd G Y → RItems G u l) := by
  rcases hv.cases with ⟨vb, vo, vc, rfl, _, hr⟩ | ⟨rfl, rfl⟩
  ·
    refine C.go hT Try.func12 Try.ntmps12 ?_
    refine sq ?_
    refine rg ?_
    refine st (h := O) ?_
    refine nl ?_
    refine sq ?_
    refine rg ?_
    refine st (h := O) ?_
    refine nl ?_
    iterate 2 (refine sq ?_)
    refine rg ?_
    refine st (h := O) ?_
    refine nl ?_
    refine bl ?_
    refine J.gloop4 (α := Option Nat) (β := Nat) (γ := Nat) (δ := List Value) (fun Y o m k cs => k ≤ l.length ∧ m = k ∧ apB o m ∧ cs.length = m * 11 ∧ ∃ gs, gs.length = k ∧ cs = (cellsG l gs).flatten ∧ CpR l Y gs) (fun o m k cs => [(3, apV 24 o m), (4, .int .i64 k)]) [(0, _)] (fun o m k cs => apR 24 49 11 true o cs ++ []) [] (fun o m k cs => l.length - k) (none) (0) (0) ([]) (by exact ⟨rfl, rfl, trivial⟩) (by exact ⟨rfl, trivial⟩) (by exact (by repeat' first | exact trivial | refine And.intro rfl ?_)) ?_ ?_
    · exact ⟨by omega, rfl, rfl, rfl, [], rfl, rfl, fun i g h => by simp at h⟩
    · intro Y o m k cs L1 K1 e1 e2 hI hY hN
      rcases o with _ | cap_o
      all_goals
        dsimp only [apV, apR, List.cons_append, List.nil_append] at e1 e2
        subst e1 e2
        obtain ⟨hk, hmk, hap, hcl, gs, hgs, hcs, hcp⟩ := hI
        simp only [apB] at hap
        try (obtain rfl : m = 0 := hap; obtain rfl : cs = [] := List.eq_nil_of_length_eq_zero (by omega))
        iterate 2 (refine sq ?_)
        refine rg ?_
        iterate 4 (refine st (h := O) ?_)
        refine nl ?_
        refine cD (fun c0 => ?_) (fun c0 => ?_)
        · have hkl : k < l.length := by omega
          obtain ⟨r0, r1, r2, r3, r4, r5, g, hg2, hri⟩ := hr k hkl
          have hN2 : ∀ K, rdN (F.add Y) K ⟨vb, vo + (k : Int).toNat * 11, none⟩ 11 = some ((at_ l k).cells g) := fun K => by
            obtain ⟨_, hh⟩ := lookN_spec hg2
            exact lookN_of (F := F.add Y) (cs := (at_ l k).cells g) (fun j u hu => hN.le _ _ (hh j u hu))
          have hgb := hgl _ (List.mem_of_getElem? (at_get hkl))
          generalize hx : at_ l k = x at *
          rcases hri with (⟨gb, go, gc, rfl, hg63, hgr⟩ | ⟨rfl, hge⟩) | ⟨gb, go, gsp, rfl, hge⟩
          rcases Nat.eq_zero_or_pos x.glyphs.length with hz | hz
          · have hz0 : x.glyphs = [] := List.eq_nil_of_length_eq_zero hz
            rw [hz] at hg2 hN2
            refine sk ?_
            refine sq ?_
            refine bl ?_
            refine sq ?_
            refine rg ?_
            iterate 2 (refine st (h := O) ?_)
            refine st (h := (sdX (z := 11))) ?_
            refine st (h := sdLN (hv := hN2 _)) ?_
            refine al ?_
            refine so ?_
            refine nl ?_
            refine sq ?_
            refine rg ?_
            refine sl ?_
            refine st (h := sdFA) ?_
            refine st (h := sdL) ?_
            first
              | (refine ap0 ?_)
              | (refine apO (m := x.glyphs.length) (news := ivs x.glyphs) 1019 16 [(0, _), (3, _), (4, _), (5, _)] [(5, _), (24, _)] ?_ (happ := App.slice (hap2 _) hone (by simp [ivs])) (hnn := hntt _) (hru := by simp only [List.nil_append, Bool.or_eq_true]; exact .inr (hntt _)) (hflat := fun h => by cases h); intro cap19 hc19 hd19)
              | (refine apO (m := x.glyphs.length) (news := ivs x.glyphs) 1019 16 [(0, _), (3, _), (4, _), (5, _)] [(5, _)] ?_ (happ := App.slice (hap2 _) hone (by simp [ivs])) (hnn := hntt _) (hru := by simp only [List.nil_append, Bool.or_eq_true]; exact .inr (hntt _)) (hflat := fun h => by cases h); intro cap19 hc19 hd19)
            first
              | refine JL.release (d := 19) (t := 16) [(0, _), (3, _), (4, _), (5, _)] [(5, _), (24, _)] ?_ (hfl := by first | rfl | exact hpla)
              | refine JL.release (d := 19) (t := 16) [(0, _), (3, _), (4, _), (5, _)] [(5, _)] ?_ (hfl := by first | rfl | exact hpla)
            intro g2 hpl hNw
            refine st (h := sdFA) ?_
            refine so ?_
            refine nl ?_
            refine rg ?_
            refine st (h := O) ?_
            refine st (h := sdLN) ?_
            refine sl ?_
            first | refine apN (news := [_, _, _, _, _, _, _, _, _, _, _]) 24 true [(0, _), (4, _)] [(5, _)] ?_ | refine apO (news := [_, _, _, _, _, _, _, _, _, _, _]) 1024 24 [(0, _), (4, _)] [(5, _)] ?_
            intro cap24 hc24 hd24
            refine st (h := O) ?_
            refine nl ?_
            refine bk ?_
            refine rg ?_
            refine st (h := O) ?_
            refine st (h := sdA) ?_
            refine st (h := O) ?_
            refine nl ?_
            refine gbk4 (_) (some _) (_) (k + 1) (_) (by exact ⟨rfl, rfl, trivial⟩) (by exact ⟨rfl, trivial⟩) (by exact (by repeat' first | exact trivial | refine And.intro rfl ?_)) (by exact add_add _ _ _) ?_ ?_ ?_
            · exact hY.app hpl
            · omega
            · refine ⟨by omega, by omega, ⟨by omega, by omega⟩, by first | (simp only [List.length_append, hcl, List.length_cons, List.length_nil]; omega) | rfl, CpR.step hgs hcs hcp hkl hx rfl rfl fun G hG => ?_⟩
              first
                | (rw [hz0]; exact .inl ⟨g2, 0, _, rfl, by simp, fun i y h => by simp at h⟩)
                | (rw [hge]; exact .inl ⟨g2, 0, _, rfl, by simp, fun i y h => by simp at h⟩)
                | exact Rd.ivsW hG List.mem_cons_self rfl (by omega) hg63
          · have hap2 : ∀ K, rdN (F.add Y) K ⟨gb, go, none⟩ (x.glyphs.length * 1) = some (ivs x.glyphs) := fun K => by
              rw [Nat.mul_one]
              exact lookN_ints (fun i y hy => hN.le _ _ (hgr i y hy))
            have hone : ∀ v ∈ ivs x.glyphs, v.oneCell' = true := fun v hv => by obtain ⟨y, _, rfl⟩ := List.mem_map.1 hv; rfl
            have hpla : (ivs x.glyphs).all plain1 = true := List.all_eq_true.2 fun v hv => by obtain ⟨y, _, rfl⟩ := List.mem_map.1 hv; rfl
            have hntt : ∀ t, (ivs x.glyphs).all (nt1 t) = true := fun t => List.all_eq_true.2 fun v hv => by obtain ⟨y, _, rfl⟩ := List.mem_map.1 hv; rfl
            refine sk ?_
            refine sq ?_
            refine bl ?_
            refine sq ?_
            refine rg ?_
            iterate 2 (refine st (h := O) ?_)
            refine st (h := (sdX (z := 11))) ?_
            refine st (h := sdLN (hv := hN2 _)) ?_
            refine al ?_
            refine so ?_
            refine nl ?_
            refine sq ?_
            refine rg ?_
            refine sl ?_
            refine st (h := sdFA) ?_
            refine st (h := sdL) ?_
            first
              | (refine ap0 ?_)
              | (refine apO (m := x.glyphs.length) (news := ivs x.glyphs) 1019 16 [(0, _), (3, _), (4, _), (5, _)] [(5, _), (24, _)] ?_ (happ := App.slice (hap2 _) hone (by simp [ivs])) (hnn := hntt _) (hru := by simp only [List.nil_append, Bool.or_eq_true]; exact .inr (hntt _)) (hflat := fun h => by cases h); intro cap19 hc19 hd19)
              | (refine apO (m := x.glyphs.length) (news := ivs x.glyphs) 1019 16 [(0, _), (3, _), (4, _), (5, _)] [(5, _)] ?_ (happ := App.slice (hap2 _) hone (by simp [ivs])) (hnn := hntt _) (hru := by simp only [List.nil_append, Bool.or_eq_true]; exact .inr (hntt _)) (hflat := fun h => by cases h); intro cap19 hc19 hd19)
            first
              | refine JL.release (d := 19) (t := 16) [(0, _), (3, _), (4, _), (5, _)] [(5, _), (24, _)] ?_ (hfl := by first | rfl | exact hpla)
              | refine JL.release (d := 19) (t := 16) [(0, _), (3, _), (4, _), (5, _)] [(5, _)] ?_ (hfl := by first | rfl | exact hpla)
            intro g2 hpl hNw
            refine st (h := sdFA) ?_
            refine so ?_
            refine nl ?_
            refine rg ?_
            refine st (h := O) ?_
            refine st (h := sdLN) ?_
            refine sl ?_
            first | refine apN (news := [_, _, _, _, _, _, _, _, _, _, _]) 24 true [(0, _), (4, _)] [(5, _)] ?_ | refine apO (news := [_, _, _, _, _, _, _, _, _, _, _]) 1024 24 [(0, _), (4, _)] [(5, _)] ?_
            intro cap24 hc24 hd24
            refine st (h := O) ?_
            refine nl ?_
            refine bk ?_
            refine rg ?_
            refine st (h := O) ?_
            refine st (h := sdA) ?_
            refine st (h := O) ?_
            refine nl ?_
            refine gbk4 (_) (some _) (_) (k + 1) (_) (by exact ⟨rfl, rfl, trivial⟩) (by exact ⟨rfl, trivial⟩) (by exact (by repeat' first | exact trivial | refine And.intro rfl ?_)) (by exact add_add _ _ _) ?_ ?_ ?_
            · exact hY.app hpl
            · omega
            · refine ⟨by omega, by omega, ⟨by omega, by omega⟩, by first | (simp only [List.length_append, hcl, List.length_cons, List.length_nil]; omega) | rfl, CpR.step hgs hcs hcp hkl hx rfl rfl fun G hG => ?_⟩
              first
                | (rw [hz0]; exact .inl ⟨g2, 0, _, rfl, by simp, fun i y h => by simp at h⟩)
                | (rw [hge]; exact .inl ⟨g2, 0, _, rfl, by simp, fun i y h => by simp at h⟩)
                | exact Rd.ivsW hG List.mem_cons_self rfl (by omega) hg63
          ·
            refine sk ?_
            refine sq ?_
            refine bl ?_
            refine sq ?_
            refine rg ?_
            iterate 2 (refine st (h := O) ?_)
            refine st (h := (sdX (z := 11))) ?_
            refine st (h := sdLN (hv := hN2 _)) ?_
            refine al ?_
            refine so ?_
            refine nl ?_
            refine sq ?_
            refine rg ?_
            refine sl ?_
            refine st (h := sdFA) ?_
            refine st (h := sdL) ?_
            first
              | (refine ap0 ?_)
              | (refine apO (m := x.glyphs.length) (news := ivs x.glyphs) 1019 16 [(0, _), (3, _), (4, _), (5, _)] [(5, _), (24, _)] ?_ (happ := App.slice (hap2 _) hone (by simp [ivs])) (hnn := hntt _) (hru := by simp only [List.nil_append, Bool.or_eq_true]; exact .inr (hntt _)) (hflat := fun h => by cases h); intro cap19 hc19 hd19)
              | (refine apO (m := x.glyphs.length) (news := ivs x.glyphs) 1019 16 [(0, _), (3, _), (4, _), (5, _)] [(5, _)] ?_ (happ := App.slice (hap2 _) hone (by simp [ivs])) (hnn := hntt _) (hru := by simp only [List.nil_append, Bool.or_eq_true]; exact .inr (hntt _)) (hflat := fun h => by cases h); intro cap19 hc19 hd19)
            first
              | refine JL.release (d := 19) (t := 16) [(0, _), (3, _), (4, _), (5, _)] [(5, _), (24, _)] ?_ (hfl := by first | rfl | exact hpla)
              | refine JL.release (d := 19) (t := 16) [(0, _), (3, _), (4, _), (5, _)] [(5, _)] ?_ (hfl := by first | rfl | exact hpla)
            intro g2 hpl hNw
            refine st (h := sdFA) ?_
            refine so ?_
            refine nl ?_
            refine rg ?_
            refine st (h := O) ?_
            refine st (h := sdLN) ?_
            refine sl ?_
            first | refine apN (news := [_, _, _, _, _, _, _, _, _, _, _]) 24 true [(0, _), (4, _)] [(5, _)] ?_ | refine apO (news := [_, _, _, _, _, _, _, _, _, _, _]) 1024 24 [(0, _), (4, _)] [(5, _)] ?_
            intro cap24 hc24 hd24
            refine st (h := O) ?_
            refine nl ?_
            refine bk ?_
            refine rg ?_
            refine st (h := O) ?_
            refine st (h := sdA) ?_
            refine st (h := O) ?_
            refine nl ?_
            refine gbk4 (_) (some _) (_) (k + 1) (_) (by exact ⟨rfl, rfl, trivial⟩) (by exact ⟨rfl, trivial⟩) (by exact (by repeat' first | exact trivial | refine And.intro rfl ?_)) (by exact add_add _ _ _) ?_ ?_ ?_
            · exact hY.app hpl
            · omega
            · refine ⟨by omega, by omega, ⟨by omega, by omega⟩, by first | (simp only [List.length_append, hcl, List.length_cons, List.length_nil]; omega) | rfl, CpR.step hgs hcs hcp hkl hx rfl rfl fun G hG => ?_⟩
              first
                | (rw [hz0]; exact .inl ⟨g2, 0, _, rfl, by simp, fun i y h => by simp at h⟩)
                | (rw [hge]; exact .inl ⟨g2, 0, _, rfl, by simp, fun i y h => by simp at h⟩)
                | exact Rd.ivsW hG List.mem_cons_self rfl (by omega) hg63
          ·
            refine sk ?_
            refine sq ?_
            refine bl ?_
            refine sq ?_
            refine rg ?_
            iterate 2 (refine st (h := O) ?_)
            refine st (h := (sdX (z := 11))) ?_
            refine st (h := sdLN (hv := hN2 _)) ?_
            refine al ?_
            refine so ?_
            refine nl ?_
            refine sq ?_
            refine rg ?_
            refine sl ?_
            refine st (h := sdFA) ?_
            refine st (h := sdL) ?_
            first
              | (refine ap0 ?_)
              | (refine apO (m := x.glyphs.length) (news := ivs x.glyphs) 1019 16 [(0, _), (3, _), (4, _), (5, _)] [(5, _), (24, _)] ?_ (happ := App.slice (hap2 _) hone (by simp [ivs])) (hnn := hntt _) (hru := by simp only [List.nil_append, Bool.or_eq_true]; exact .inr (hntt _)) (hflat := fun h => by cases h); intro cap19 hc19 hd19)
              | (refine apO (m := x.glyphs.length) (news := ivs x.glyphs) 1019 16 [(0, _), (3, _), (4, _), (5, _)] [(5, _)] ?_ (happ := App.slice (hap2 _) hone (by simp [ivs])) (hnn := hntt _) (hru := by simp only [List.nil_append, Bool.or_eq_true]; exact .inr (hntt _)) (hflat := fun h => by cases h); intro cap19 hc19 hd19)
            first
              | refine JL.release (d := 19) (t := 16) [(0, _), (3, _), (4, _), (5, _)] [(5, _), (24, _)] ?_ (hfl := by first | rfl | exact hpla)
              | refine JL.release (d := 19) (t := 16) [(0, _), (3, _), (4, _), (5, _)] [(5, _)] ?_ (hfl := by first | rfl | exact hpla)
            intro g2 hpl hNw
            refine st (h := sdFA) ?_
            refine so ?_
            refine nl ?_
            refine rg ?_
            refine st (h := O) ?_
            refine st (h := sdLN) ?_
            refine sl ?_
            first | refine apN (news := [_, _, _, _, _, _, _, _, _, _, _]) 24 true [(0, _), (4, _)] [(5, _)] ?_ | refine apO (news := [_, _, _, _, _, _, _, _, _, _, _]) 1024 24 [(0, _), (4, _)] [(5, _)] ?_
            intro cap24 hc24 hd24
            refine st (h := O) ?_
            refine nl ?_
            refine bk ?_
            refine rg ?_
            refine st (h := O) ?_
            refine st (h := sdA) ?_
            refine st (h := O) ?_
            refine nl ?_
            refine gbk4 (_) (some _) (_) (k + 1) (_) (by exact ⟨rfl, rfl, trivial⟩) (by exact ⟨rfl, trivial⟩) (by exact (by repeat' first | exact trivial | refine And.intro rfl ?_)) (by exact add_add _ _ _) ?_ ?_ ?_
            · exact hY.app hpl
            · omega
            · refine ⟨by omega, by omega, ⟨by omega, by omega⟩, by first | (simp only [List.length_append, hcl, List.length_cons, List.length_nil]; omega) | rfl, CpR.step hgs hcs hcp hkl hx rfl rfl fun G hG => ?_⟩
              first
                | (rw [hz0]; exact .inl ⟨g2, 0, _, rfl, by simp, fun i y h => by simp at h⟩)
                | (rw [hge]; exact .inl ⟨g2, 0, _, rfl, by simp, fun i y h => by simp at h⟩)
                | exact Rd.ivsW hG List.mem_cons_self rfl (by omega) hg63
        · obtain rfl : k = l.length := by omega
          refine ex ?_
          refine sq ?_
          refine rg ?_
          iterate 2 (refine st (h := O) ?_)
          refine nl ?_
          refine rtY hY fun ι hV => ⟨?_, fun G hG => ?_⟩
          · first | exact .inr ⟨0, 0, rfl⟩ | exact .inl ⟨_, _, _, _, rfl⟩
          · first
              | (exfalso; omega)
              | exact .inr ⟨rfl, List.eq_nil_of_length_eq_zero (by omega)⟩
              | (rw [show m = l.length from hmk]; exact Copied (r := Row.r ι { elem := 49, cs := cs, room := cap_o * 11, fz := false, flat := true }) hcp (by omega) (by show cs.map (r1 ι) = _; rw [cs_c hcp hcs ι]; exact hcs) (fun x hx => hG x (by simpa using hx)) (by omega))
  ·
    refine C.go hT Try.func12 Try.ntmps12 ?_
    refine sq ?_
    refine rg ?_
    refine st (h := O) ?_
    refine nl ?_
    refine sq ?_
    refine rg ?_
    refine st (h := O) ?_
    refine nl ?_
    iterate 2 (refine sq ?_)
    refine rg ?_
    refine st (h := O) ?_
    refine nl ?_
    refine bl ?_
    refine J.loop1 (α := Nat) (fun k => k = 0) (fun k => [(3, .slice none 0 0), (4, .int .i64 k)]) [(0, _)] (fun k => []) [] (fun k => 0) (0) (by exact ⟨rfl, rfl, trivial⟩) (by exact ⟨rfl, trivial⟩) (by exact trivial) ?_ ?_
    · rfl
    · intro k L1 K1 e1 e2 hI
      dsimp only [apV, apR, List.cons_append, List.nil_append] at e1 e2
      subst e1 e2
      subst hI
      iterate 2 (refine sq ?_)
      refine rg ?_
      iterate 4 (refine st (h := O) ?_)
      refine nl ?_
      refine cD (fun c0 => ?_) (fun c0 => ?_)
      · exact absurd c0 (by decide)
      · refine ex ?_
        refine sq ?_
        refine rg ?_
        iterate 2 (refine st (h := O) ?_)
        refine nl ?_
        exact rt ⟨.inr ⟨0, 0, rfl⟩, fun G _ => .inr ⟨rfl, rfl⟩⟩

end Go.Proofs.Ytbeblgjibfoanaa.Am
namespace Go.Proofs.Ytbeblgjibfoanaa.Am
set_option linter.unusedSimpArgs false
set_option linter.unusedVariables false
set_option maxRecDepth 100000
set_option maxHeartbeats 4000000
open Go Go.RowKit
theorem all_take {l : List Item} {k : Nat} (h : k < l.length) : (l.take (k + 1)).all Item.ok = ((l.take k).all Item.ok && (at_ l k).ok) := by
  have : l.take (k + 1) = l.take k ++ [at_ l k] := by
    rw [List.take_add_one, at_get h]; rfl
  rw [this, List.all_append]; simp
theorem all_false {l : List Item} {k : Nat} (h : k < l.length) (hf : (at_ l k).ok = false) : l.all Item.ok = false := by
  rw [List.all_eq_false]
  exact ⟨at_ l k, List.mem_of_getElem? (at_get h), by simp [hf]⟩
theorem IGood_C (F : Mem) (v : Value) (l : List Item) (hv : RItems F v l) : C0 Try.prog 33 [v] F (.bool (goodL l)) := by
  rcases hv.cases with ⟨b, off, c, rfl, hlen, hr⟩ | ⟨rfl, rfl⟩
  · refine C.go hT Try.func33 Try.ntmps33 ?_
    (repeat (first | refine st ?_ | refine nl ?_ | refine sq ?_ | refine rg ?_ | refine bl ?_ | refine sk ?_ | refine bk ?_ | refine bx ?_ | refine al ?_ | refine so ?_ | refine mk ?_ | refine ex ?_ | refine lb ?_ | refine cT ?_ | refine cF ?_ | refine sg ?_ | refine sp ?_ | refine su ?_))
    refine gD (fun h0 => ?_) (fun h0 => ?_)
    · (repeat (first | refine st ?_ | refine nl ?_ | refine sq ?_ | refine rg ?_ | refine bl ?_ | refine sk ?_ | refine bk ?_ | refine bx ?_ | refine al ?_ | refine so ?_ | refine mk ?_ | refine ex ?_ | refine lb ?_ | refine cT ?_ | refine cF ?_ | refine sg ?_ | refine sp ?_ | refine su ?_))
      refine rt ⟨?_, rfl⟩
      simp only [Value.bool.injEq, goodL]
      have : ¬ (1 ≤ l.length ∧ l.length ≤ 1024) := by omega
      simp [this]
    · (repeat (first | refine st ?_ | refine nl ?_ | refine sq ?_ | refine rg ?_ | refine bl ?_ | refine sk ?_ | refine bk ?_ | refine bx ?_ | refine al ?_ | refine so ?_ | refine mk ?_ | refine ex ?_ | refine lb ?_ | refine cT ?_ | refine cF ?_ | refine sg ?_ | refine sp ?_ | refine su ?_))
      refine cD (fun h1 => ?_) (fun h1 => ?_)
      · (repeat (first | refine st ?_ | refine nl ?_ | refine sq ?_ | refine rg ?_ | refine bl ?_ | refine sk ?_ | refine bk ?_ | refine bx ?_ | refine al ?_ | refine so ?_ | refine mk ?_ | refine ex ?_ | refine lb ?_ | refine cT ?_ | refine cF ?_ | refine sg ?_ | refine sp ?_ | refine su ?_))
        refine rt ⟨?_, rfl⟩
        simp only [Value.bool.injEq, goodL]
        have : ¬ (1 ≤ l.length ∧ l.length ≤ 1024) := by omega
        simp [this]
      · (repeat (first | refine st ?_ | refine nl ?_ | refine sq ?_ | refine rg ?_ | refine bl ?_ | refine sk ?_ | refine bk ?_ | refine bx ?_ | refine al ?_ | refine so ?_ | refine mk ?_ | refine ex ?_ | refine lb ?_ | refine cT ?_ | refine cF ?_ | refine sg ?_ | refine sp ?_ | refine su ?_))
        refine J.loopS (α := Nat) (fun k => k ≤ l.length ∧ (l.take k).all Item.ok = true) (fun k => [(0, .slice (some ⟨b, off, none⟩) l.length c), (14, .slice (some ⟨b, off, none⟩) l.length c), (15, .int .i64 l.length), (16, .int .i64 k)]) (fun _ => []) (fun k => l.length - k) 0 ⟨Nat.zero_le _, rfl⟩ ⟨rfl, rfl, rfl, rfl, trivial⟩ trivial ?_
        rintro k ⟨hk, hok⟩
        (repeat (first | refine st ?_ | refine nl ?_ | refine sq ?_ | refine rg ?_ | refine bl ?_ | refine sk ?_ | refine bk ?_ | refine bx ?_ | refine al ?_ | refine so ?_ | refine mk ?_ | refine ex ?_ | refine lb ?_ | refine cT ?_ | refine cF ?_ | refine sg ?_ | refine sp ?_ | refine su ?_))
        refine cD (fun h2 => ?_) (fun h2 => ?_)
        · have hkl : k < l.length := by omega
          obtain ⟨r0, r1, r2, r3, r4, r5, g, hg, hri⟩ := hr k hkl
          have hN : rdN F [] ⟨b, off + k * 11, none⟩ 11 = some ((at_ l k).cells g) := hg
          have hx := all_take hkl
          have hxf := all_false (l := l) hkl
          generalize at_ l k = x at *
          rcases hri with (⟨gb, go, gc, rfl, _, _⟩ | ⟨rfl, _⟩) | ⟨gb, go, gsp, rfl, _⟩
          all_goals
            (repeat' (first | refine st ?_ | refine nl ?_ | refine sq ?_ | refine rg ?_ | refine bl ?_ | refine sk ?_ | refine bk ?_ | refine bx ?_ | refine al ?_ | refine so ?_ | refine mk ?_ | refine ex ?_ | refine lb ?_ | refine cT ?_ | refine cF ?_ | refine sg ?_ | refine sp ?_ | refine su ?_ | refine gD (fun _ => ?_) (fun _ => ?_) | refine gN (fun _ => ?_) (fun _ => ?_) | refine cD (fun _ => ?_) (fun _ => ?_) | refine cN (fun _ => ?_) (fun _ => ?_) | refine cl ?_ (h := by exact fun _ _ _ => sized_C _ _) | refine clg ?_ (h := by exact fun _ _ _ => sized_C _ _)))
            all_goals first
              | (refine rt ⟨?_, rfl⟩
                 have hq := hxf (by simp only [Item.ok, decide_eq_false_iff_not]; omega)
                 simp only [Value.bool.injEq, goodL, hq, Bool.and_false, Bool.false_and])
              | (have hq : x.ok = true := by
                   simp only [Item.ok, decide_eq_true_eq]; omega
                 refine J.back ⟨k + 1, by omega, ⟨hkl, by rw [hx, hok, hq]; rfl⟩, rfl, ⟨rfl, rfl, rfl, rfl, trivial⟩, trivial⟩)
        · have hkl : k = l.length := by omega
          subst hkl
          have hl1 : l.length - 1 < l.length := by omega
          obtain ⟨r0, r1, r2, r3, r4, r5, g, hg, hri⟩ := hr _ hl1
          have q0 := (hr 0 (by omega)).1
          have hgd : goodL l = (decide ((at_ l 0).kind = 1) && decide ((at_ l (l.length - 1)).kind = 3) && decide ((at_ l (l.length - 1)).cost = -10000)) := by
            rw [List.take_length] at hok
            have : 1 ≤ l.length ∧ l.length ≤ 1024 := by omega
            simp [goodL, hok, this]
          rw [hgd]
          generalize at_ l (l.length - 1) = x at *
          generalize at_ l 0 = y at *
          clear hr hok hv hgd
          have e1 : ((l.length : Int) - 1).toNat = l.length - 1 := by omega
          rw [← e1] at r0 r1 r2 r3 r4 r5 hg
          have hN : rdN F [] ⟨b, off + ((l.length : Int) - 1).toNat * 11, none⟩ 11 = some (x.cells g) := hg
          rcases hri with (⟨gb, go, gc, rfl, _, _⟩ | ⟨rfl, _⟩) | ⟨gb, go, gsp, rfl, _⟩
          all_goals
            (repeat' (first | refine st ?_ | refine nl ?_ | refine sq ?_ | refine rg ?_ | refine bl ?_ | refine sk ?_ | refine bk ?_ | refine bx ?_ | refine al ?_ | refine so ?_ | refine mk ?_ | refine ex ?_ | refine lb ?_ | refine cT ?_ | refine cF ?_ | refine sg ?_ | refine sp ?_ | refine su ?_ | refine gD (fun _ => ?_) (fun _ => ?_) | refine gN (fun _ => ?_) (fun _ => ?_) | refine cD (fun _ => ?_) (fun _ => ?_) | refine cN (fun _ => ?_) (fun _ => ?_)))
            all_goals (refine rt ⟨?_, rfl⟩; simp [*])
  · refine C.go hT Try.func33 Try.ntmps33 ?_
    (repeat' (first | refine st ?_ | refine nl ?_ | refine sq ?_ | refine rg ?_ | refine bl ?_ | refine sk ?_ | refine bk ?_ | refine bx ?_ | refine al ?_ | refine so ?_ | refine mk ?_ | refine ex ?_ | refine lb ?_ | refine cT ?_ | refine cF ?_ | refine sg ?_ | refine sp ?_ | refine su ?_ | refine gD (fun _ => ?_) (fun _ => ?_) | refine gN (fun _ => ?_) (fun _ => ?_) | refine cD (fun _ => ?_) (fun _ => ?_) | refine cN (fun _ => ?_) (fun _ => ?_)))
    all_goals (exact rt ⟨rfl, rfl⟩)

end Go.Proofs.Ytbeblgjibfoanaa.Am
namespace Go.Proofs.Ytbeblgjibfoanaa.Am
set_option linter.unusedSimpArgs false
set_option linter.unusedVariables false
set_option maxRecDepth 100000
set_option maxHeartbeats 4000000
open Go Go.RowKit
theorem RGood_C (F : Mem) (v : Value) (l : List Item) (hv : RItems F v l) : C0 Try.prog 21 [v] F (.bool (goodL l)) := by
  rcases hv.cases with ⟨b, off, c, rfl, hlen, hr⟩ | ⟨rfl, rfl⟩
  · by_cases hn : 1 ≤ l.length
    · have hl1 : l.length - 1 < l.length := by omega
      have q0 := (hr 0 (by omega)).1
      obtain ⟨r0, _, _, _, r4, _, _⟩ := hr _ hl1
      have hgd : goodL l = (decide (l.length ≤ 1024) && l.all Item.ok && decide ((at_ l 0).kind = 1) && decide ((at_ l (l.length - 1)).kind = 3) && decide ((at_ l (l.length - 1)).cost = -10000)) := by simp [goodL, hn]
      rw [hgd]
      clear hgd
      generalize at_ l (l.length - 1) = z at r0 r4 ⊢
      generalize at_ l 0 = y at q0 ⊢
      have e1 : ((l.length : Int) - 1).toNat = l.length - 1 := by omega
      rw [← e1] at r0 r4
      refine C.go hT Try.func21 Try.ntmps21 ?_
      (repeat (first | refine st ?_ | refine nl ?_ | refine sq ?_ | refine rg ?_ | refine bl ?_ | refine sk ?_ | refine bk ?_ | refine bx ?_ | refine al ?_ | refine so ?_ | refine mk ?_ | refine ex ?_ | refine lb ?_ | refine cT ?_ | refine cF ?_ | refine sg ?_ | refine sp ?_ | refine su ?_))
      refine gD (fun h0 => ?_) (fun h0 => ?_)
      · omega
      · (repeat (first | refine st ?_ | refine nl ?_ | refine sq ?_ | refine rg ?_ | refine bl ?_ | refine sk ?_ | refine bk ?_ | refine bx ?_ | refine al ?_ | refine so ?_ | refine mk ?_ | refine ex ?_ | refine lb ?_ | refine cT ?_ | refine cF ?_ | refine sg ?_ | refine sp ?_ | refine su ?_))
        refine gD (fun h1 => ?_) (fun h1 => ?_)
        · (repeat (first | refine st ?_ | refine nl ?_ | refine sq ?_ | refine rg ?_ | refine bl ?_ | refine sk ?_ | refine bk ?_ | refine bx ?_ | refine al ?_ | refine so ?_ | refine mk ?_ | refine ex ?_ | refine lb ?_ | refine cT ?_ | refine cF ?_ | refine sg ?_ | refine sp ?_ | refine su ?_))
          refine rt ⟨?_, rfl⟩
          simp only [Value.bool.injEq, eq_comm (a := false)]
          have : ¬ l.length ≤ 1024 := by omega
          simp [this]
        · have h1' : l.length ≤ 1024 := by omega
          (repeat (first | refine st ?_ | refine nl ?_ | refine sq ?_ | refine rg ?_ | refine bl ?_ | refine sk ?_ | refine bk ?_ | refine bx ?_ | refine al ?_ | refine so ?_ | refine mk ?_ | refine ex ?_ | refine lb ?_ | refine cT ?_ | refine cF ?_ | refine sg ?_ | refine sp ?_ | refine su ?_))
          refine gN (fun h2 => ?_) (fun h2 => ?_)
          · (repeat (first | refine st ?_ | refine nl ?_ | refine sq ?_ | refine rg ?_ | refine bl ?_ | refine sk ?_ | refine bk ?_ | refine bx ?_ | refine al ?_ | refine so ?_ | refine mk ?_ | refine ex ?_ | refine lb ?_ | refine cT ?_ | refine cF ?_ | refine sg ?_ | refine sp ?_ | refine su ?_))
            refine rt ⟨?_, rfl⟩
            simp [h2]
          · (repeat (first | refine st ?_ | refine nl ?_ | refine sq ?_ | refine rg ?_ | refine bl ?_ | refine sk ?_ | refine bk ?_ | refine bx ?_ | refine al ?_ | refine so ?_ | refine mk ?_ | refine ex ?_ | refine lb ?_ | refine cT ?_ | refine cF ?_ | refine sg ?_ | refine sp ?_ | refine su ?_))
            refine gN (fun h3 => ?_) (fun h3 => ?_)
            · (repeat (first | refine st ?_ | refine nl ?_ | refine sq ?_ | refine rg ?_ | refine bl ?_ | refine sk ?_ | refine bk ?_ | refine bx ?_ | refine al ?_ | refine so ?_ | refine mk ?_ | refine ex ?_ | refine lb ?_ | refine cT ?_ | refine cF ?_ | refine sg ?_ | refine sp ?_ | refine su ?_))
              refine rt ⟨?_, rfl⟩
              simp [h3]
            · (repeat (first | refine st ?_ | refine nl ?_ | refine sq ?_ | refine rg ?_ | refine bl ?_ | refine sk ?_ | refine bk ?_ | refine bx ?_ | refine al ?_ | refine so ?_ | refine mk ?_ | refine ex ?_ | refine lb ?_ | refine cT ?_ | refine cF ?_ | refine sg ?_ | refine sp ?_ | refine su ?_))
              refine cN (fun h4 => ?_) (fun h4 => ?_)
              · (repeat (first | refine st ?_ | refine nl ?_ | refine sq ?_ | refine rg ?_ | refine bl ?_ | refine sk ?_ | refine bk ?_ | refine bx ?_ | refine al ?_ | refine so ?_ | refine mk ?_ | refine ex ?_ | refine lb ?_ | refine cT ?_ | refine cF ?_ | refine sg ?_ | refine sp ?_ | refine su ?_))
                refine rt ⟨?_, rfl⟩
                simp [h4]
              · simp only [h1', h2, h3, h4, decide_true, Bool.true_and, Bool.and_true]
                clear q0 r0 r4 h2 h3 h4 e1
                (repeat (first | refine st ?_ | refine nl ?_ | refine sq ?_ | refine rg ?_ | refine bl ?_ | refine sk ?_ | refine bk ?_ | refine bx ?_ | refine al ?_ | refine so ?_ | refine mk ?_ | refine ex ?_ | refine lb ?_ | refine cT ?_ | refine cF ?_ | refine sg ?_ | refine sp ?_ | refine su ?_))
                refine J.loopS (α := Nat) (fun k => k ≤ l.length ∧ (l.take k).all Item.ok = true) (fun k => [(0, .slice (some ⟨b, off, none⟩) l.length c), (3, .int .i64 k)]) (fun _ => []) (fun k => l.length - k) 0 ⟨Nat.zero_le _, rfl⟩ ⟨rfl, rfl, trivial⟩ trivial ?_
                rintro k ⟨hk, hok⟩
                (repeat (first | refine st ?_ | refine nl ?_ | refine sq ?_ | refine rg ?_ | refine bl ?_ | refine sk ?_ | refine bk ?_ | refine bx ?_ | refine al ?_ | refine so ?_ | refine mk ?_ | refine ex ?_ | refine lb ?_ | refine cT ?_ | refine cF ?_ | refine sg ?_ | refine sp ?_ | refine su ?_))
                refine cD (fun h2 => ?_) (fun h2 => ?_)
                · have hkl : k < l.length := by omega
                  obtain ⟨r0, r1, r2, r3, r4, r5, g, hg, hri⟩ := hr k hkl
                  have hN : rdN F [] ⟨b, off + k * 11, none⟩ 11 = some ((at_ l k).cells g) := hg
                  have hx := all_take hkl
                  have hxf := all_false (l := l) hkl
                  clear hr
                  generalize at_ l k = x at *
                  rcases hri with (⟨gb, go, gc, rfl, _, _⟩ | ⟨rfl, _⟩) | ⟨gb, go, gsp, rfl, _⟩
                  all_goals
                    (repeat' (first | refine st ?_ | refine nl ?_ | refine sq ?_ | refine rg ?_ | refine bl ?_ | refine sk ?_ | refine bk ?_ | refine bx ?_ | refine al ?_ | refine so ?_ | refine mk ?_ | refine ex ?_ | refine lb ?_ | refine cT ?_ | refine cF ?_ | refine sg ?_ | refine sp ?_ | refine su ?_ | refine gD (fun _ => ?_) (fun _ => ?_) | refine gN (fun _ => ?_) (fun _ => ?_) | refine cD (fun _ => ?_) (fun _ => ?_) | refine cN (fun _ => ?_) (fun _ => ?_)))
                    all_goals first
                      | (refine rt ⟨?_, rfl⟩
                         rw [hxf (by simp only [Item.ok, decide_eq_false_iff_not]; omega)])
                      | (have hq : x.ok = true := by
                           simp only [Item.ok, decide_eq_true_eq]; omega
                         refine J.back ⟨k + 1, by omega, ⟨hkl, by rw [hx, hok, hq]; rfl⟩, rfl, ⟨rfl, rfl, trivial⟩, trivial⟩)
                · have hkl : k = l.length := by omega
                  subst hkl
                  rw [List.take_length] at hok
                  (repeat (first | refine st ?_ | refine nl ?_ | refine sq ?_ | refine rg ?_ | refine bl ?_ | refine sk ?_ | refine bk ?_ | refine bx ?_ | refine al ?_ | refine so ?_ | refine mk ?_ | refine ex ?_ | refine lb ?_ | refine cT ?_ | refine cF ?_ | refine sg ?_ | refine sp ?_ | refine su ?_))
                  refine rt ⟨?_, rfl⟩
                  rw [hok]
    · have h0 : goodL l = false := by simp [goodL, hn]
      rw [h0]
      refine C.go hT Try.func21 Try.ntmps21 ?_
      (repeat (first | refine st ?_ | refine nl ?_ | refine sq ?_ | refine rg ?_ | refine bl ?_ | refine sk ?_ | refine bk ?_ | refine bx ?_ | refine al ?_ | refine so ?_ | refine mk ?_ | refine ex ?_ | refine lb ?_ | refine cT ?_ | refine cF ?_ | refine sg ?_ | refine sp ?_ | refine su ?_))
      refine gD (fun h0 => ?_) (fun h0 => ?_)
      · (repeat (first | refine st ?_ | refine nl ?_ | refine sq ?_ | refine rg ?_ | refine bl ?_ | refine sk ?_ | refine bk ?_ | refine bx ?_ | refine al ?_ | refine so ?_ | refine mk ?_ | refine ex ?_ | refine lb ?_ | refine cT ?_ | refine cF ?_ | refine sg ?_ | refine sp ?_ | refine su ?_))
        exact rt ⟨rfl, rfl⟩
      · omega
  · refine C.go hT Try.func21 Try.ntmps21 ?_
    (repeat' (first | refine st ?_ | refine nl ?_ | refine sq ?_ | refine rg ?_ | refine bl ?_ | refine sk ?_ | refine bk ?_ | refine bx ?_ | refine al ?_ | refine so ?_ | refine mk ?_ | refine ex ?_ | refine lb ?_ | refine cT ?_ | refine cF ?_ | refine sg ?_ | refine sp ?_ | refine su ?_ | refine gD (fun _ => ?_) (fun _ => ?_) | refine gN (fun _ => ?_) (fun _ => ?_) | refine cD (fun _ => ?_) (fun _ => ?_) | refine cN (fun _ => ?_) (fun _ => ?_)))
    all_goals (exact rt ⟨rfl, rfl⟩)
/-- may a line end at an item? -/
def legalB (l : List Item) (i : Int) : Bool := decide (0 ≤ i ∧ i < l.length) && ((decide ((at_ l i.toNat).kind = 2) && decide (0 < i) && decide ((at_ l (i - 1).toNat).kind = 1)) || (decide ((at_ l i.toNat).kind = 3) && decide ((at_ l i.toNat).cost < 10000)))
theorem RLegal_C (F : Mem) (v : Value) (l : List Item) (i : Int) (hv : RItems F v l) : C0 Try.prog 41 [v, .int .i64 i] F (.bool (legalB l i)) := by
  by_cases hi : 0 ≤ i ∧ i < l.length
  · obtain ⟨k, rfl⟩ := Int.eq_ofNat_of_zero_le hi.1
    have hkl : k < l.length := by omega
    rcases hv.cases with ⟨b, off, c, rfl, hlen, hr⟩ | ⟨rfl, rfl⟩
    · obtain ⟨r0, _, _, _, r4, _, _⟩ := hr k hkl
      have p0 : 0 < k → look F ⟨b, off + ((k : Int) - 1).toNat * 11 + 0, none⟩ = some (.int .i64 (at_ l ((k : Int) - 1).toNat).kind) := fun h => (hr _ (by omega)).1
      have hL : legalB l (k : Int) = ((decide ((at_ l k).kind = 2) && decide ((0 : Int) < (k : Int)) && decide ((at_ l ((k : Int) - 1).toNat).kind = 1)) || (decide ((at_ l k).kind = 3) && decide ((at_ l k).cost < 10000))) := by simp [legalB, hkl]
      rw [hL]
      clear hr hv hL
      generalize at_ l k = x at r0 r4 ⊢
      generalize at_ l ((k : Int) - 1).toNat = y at p0 ⊢
      refine C.go hT Try.func41 Try.ntmps41 ?_
      by_cases hk0 : 0 < k
      · have p := p0 hk0
        (repeat' (first | refine st ?_ | refine nl ?_ | refine sq ?_ | refine rg ?_ | refine bl ?_ | refine sk ?_ | refine bk ?_ | refine bx ?_ | refine al ?_ | refine so ?_ | refine mk ?_ | refine ex ?_ | refine lb ?_ | refine cT ?_ | refine cF ?_ | refine sg ?_ | refine sp ?_ | refine su ?_ | refine gD (fun _ => ?_) (fun _ => ?_) | refine gN (fun _ => ?_) (fun _ => ?_) | refine cD (fun _ => ?_) (fun _ => ?_) | refine cN (fun _ => ?_) (fun _ => ?_)))
        all_goals first
          | (exfalso; omega)
          | (refine rt ⟨?_, rfl⟩; simp [*])
      · (repeat' (first | refine st ?_ | refine nl ?_ | refine sq ?_ | refine rg ?_ | refine bl ?_ | refine sk ?_ | refine bk ?_ | refine bx ?_ | refine al ?_ | refine so ?_ | refine mk ?_ | refine ex ?_ | refine lb ?_ | refine cT ?_ | refine cF ?_ | refine sg ?_ | refine sp ?_ | refine su ?_ | refine gD (fun _ => ?_) (fun _ => ?_) | refine gN (fun _ => ?_) (fun _ => ?_) | refine cD (fun _ => ?_) (fun _ => ?_) | refine cN (fun _ => ?_) (fun _ => ?_)))
        all_goals first
          | (exfalso; omega)
          | (refine rt ⟨?_, rfl⟩; simp [*])
    · simp at hkl
  · have h0 : legalB l i = false := by simp only [legalB, hi, decide_false, Bool.false_and]
    rw [h0]
    rcases hv.cases with ⟨b, off, c, rfl, hlen, hr⟩ | ⟨rfl, rfl⟩
    all_goals
      refine C.go hT Try.func41 Try.ntmps41 ?_
      (repeat (first | refine st ?_ | refine nl ?_ | refine sq ?_ | refine rg ?_ | refine bl ?_ | refine sk ?_ | refine bk ?_ | refine bx ?_ | refine al ?_ | refine so ?_ | refine mk ?_ | refine ex ?_ | refine lb ?_ | refine cT ?_ | refine cF ?_ | refine sg ?_ | refine sp ?_ | refine su ?_))
      refine gD (fun h0 => ?_) (fun h0 => ?_)
      · (repeat (first | refine st ?_ | refine nl ?_ | refine sq ?_ | refine rg ?_ | refine bl ?_ | refine sk ?_ | refine bk ?_ | refine bx ?_ | refine al ?_ | refine so ?_ | refine mk ?_ | refine ex ?_ | refine lb ?_ | refine cT ?_ | refine cF ?_ | refine sg ?_ | refine sp ?_ | refine su ?_))
        exact rt ⟨rfl, rfl⟩
      · (repeat (first | refine st ?_ | refine nl ?_ | refine sq ?_ | refine rg ?_ | refine bl ?_ | refine sk ?_ | refine bk ?_ | refine bx ?_ | refine al ?_ | refine so ?_ | refine mk ?_ | refine ex ?_ | refine lb ?_ | refine cT ?_ | refine cF ?_ | refine sg ?_ | refine sp ?_ | refine su ?_))
        refine cD (fun h1 => ?_) (fun h1 => ?_)
        · (repeat (first | refine st ?_ | refine nl ?_ | refine sq ?_ | refine rg ?_ | refine bl ?_ | refine sk ?_ | refine bk ?_ | refine bx ?_ | refine al ?_ | refine so ?_ | refine mk ?_ | refine ex ?_ | refine lb ?_ | refine cT ?_ | refine cF ?_ | refine sg ?_ | refine sp ?_ | refine su ?_))
          exact rt ⟨rfl, rfl⟩
        · first | (exfalso; omega) | (exfalso; simp at h1 h0 hi; omega)

end Go.Proofs.Ytbeblgjibfoanaa.Am
namespace Go.Proofs.Ytbeblgjibfoanaa.Am
set_option linter.unusedSimpArgs false
set_option linter.unusedVariables false
set_option maxRecDepth 100000
set_option maxHeartbeats 4000000
open Go Go.RowKit
def ints (xs : List Int) (i : Nat) : Int := xs.getD i 0
theorem ints_get {xs : List Int} {i : Nat} (h : i < xs.length) : xs[i]? = some (ints xs i) := by simp [ints, List.getD_eq_getElem?_getD, List.getElem?_eq_getElem h]
theorem same_take {xs ys : List Int} {k : Nat} (hl : xs.length = ys.length) (hk : k < xs.length) (h : xs.take k = ys.take k) (e : ints xs k = ints ys k) : xs.take (k + 1) = ys.take (k + 1) := by
  rw [List.take_add_one, List.take_add_one, h, ints_get hk, ints_get (hl ▸ hk), e]
theorem Same_C (F : Mem) (v u : Value) (xs ys : List Int) (hv : RInts F v xs) (hu : RInts F u ys) : C0 Try.prog 17 [v, u] F (.bool (decide (xs = ys))) := by
  rcases hv with ⟨b, off, c, rfl, hlen, hr⟩ | ⟨rfl, rfl⟩ <;> rcases hu with ⟨b2, off2, c2, rfl, hlen2, hr2⟩ | ⟨rfl, rfl⟩
  · refine C.go hT Try.func17 Try.ntmps17 ?_
    (repeat (first | refine st ?_ | refine nl ?_ | refine sq ?_ | refine rg ?_ | refine bl ?_ | refine sk ?_ | refine bk ?_ | refine bx ?_ | refine al ?_ | refine so ?_ | refine mk ?_ | refine ex ?_ | refine lb ?_ | refine cT ?_ | refine cF ?_ | refine sg ?_ | refine sp ?_ | refine su ?_))
    refine cN (fun h0 => ?_) (fun h0 => ?_)
    · (repeat (first | refine st ?_ | refine nl ?_ | refine sq ?_ | refine rg ?_ | refine bl ?_ | refine sk ?_ | refine bk ?_ | refine bx ?_ | refine al ?_ | refine so ?_ | refine mk ?_ | refine ex ?_ | refine lb ?_ | refine cT ?_ | refine cF ?_ | refine sg ?_ | refine sp ?_ | refine su ?_))
      refine rt ⟨?_, rfl⟩
      have : xs ≠ ys := fun e => h0 (by rw [e])
      simp [this]
    · have hl : xs.length = ys.length := by omega
      (repeat (first | refine st ?_ | refine nl ?_ | refine sq ?_ | refine rg ?_ | refine bl ?_ | refine sk ?_ | refine bk ?_ | refine bx ?_ | refine al ?_ | refine so ?_ | refine mk ?_ | refine ex ?_ | refine lb ?_ | refine cT ?_ | refine cF ?_ | refine sg ?_ | refine sp ?_ | refine su ?_))
      refine J.loopS (α := Nat) (fun k => k ≤ xs.length ∧ xs.take k = ys.take k) (fun k => [(0, .slice (some ⟨b, off, none⟩) xs.length c), (1, .slice (some ⟨b2, off2, none⟩) ys.length c2), (5, .int .i64 k)]) (fun _ => []) (fun k => xs.length - k) 0 ⟨Nat.zero_le _, rfl⟩ ⟨rfl, rfl, rfl, trivial⟩ trivial ?_
      rintro k ⟨hk, hok⟩
      (repeat (first | refine st ?_ | refine nl ?_ | refine sq ?_ | refine rg ?_ | refine bl ?_ | refine sk ?_ | refine bk ?_ | refine bx ?_ | refine al ?_ | refine so ?_ | refine mk ?_ | refine ex ?_ | refine lb ?_ | refine cT ?_ | refine cF ?_ | refine sg ?_ | refine sp ?_ | refine su ?_))
      refine cD (fun h2 => ?_) (fun h2 => ?_)
      · have hkl : k < xs.length := by omega
        have r1 : look F ⟨b, off + k * 1, none⟩ = some (.int .i64 (ints xs k)) := by rw [Nat.mul_one]; exact hr k _ (ints_get hkl)
        have r2 : look F ⟨b2, off2 + k * 1, none⟩ = some (.int .i64 (ints ys k)) := by rw [Nat.mul_one]; exact hr2 k _ (ints_get (by omega))
        have hs := same_take hl hkl hok
        have hne : ints xs k ≠ ints ys k → xs ≠ ys := fun h e => h (by rw [e])
        generalize ints xs k = x at *
        generalize ints ys k = y at *
        (repeat (first | refine st ?_ | refine nl ?_ | refine sq ?_ | refine rg ?_ | refine bl ?_ | refine sk ?_ | refine bk ?_ | refine bx ?_ | refine al ?_ | refine so ?_ | refine mk ?_ | refine ex ?_ | refine lb ?_ | refine cT ?_ | refine cF ?_ | refine sg ?_ | refine sp ?_ | refine su ?_))
        refine dr 9 [] [0, 1, 2, 3, 4, 5, 6, 7, 8] ?_
        (repeat (first | refine dt ?_ | refine dg ?_ | refine dp ?_ | refine du ?_ | refine dq ?_ | refine dqg ?_ | refine dqp ?_ | refine dqu ?_ | refine dso ?_ | refine dal ?_ | refine dmk ?_ | refine dbx ?_ | refine dv ?_ | refine dpe ?_ | refine dn ?_ | refine st ?_ | refine nl ?_ | refine sq ?_ | refine rg ?_ | refine bl ?_ | refine sk ?_ | refine bk ?_ | refine bx ?_ | refine al ?_ | refine so ?_ | refine mk ?_ | refine ex ?_ | refine lb ?_ | refine cT ?_ | refine cF ?_ | refine sg ?_ | refine sp ?_ | refine su ?_))
        refine cN (fun h3 => ?_) (fun h3 => ?_)
        · (repeat (first | refine st ?_ | refine nl ?_ | refine sq ?_ | refine rg ?_ | refine bl ?_ | refine sk ?_ | refine bk ?_ | refine bx ?_ | refine al ?_ | refine so ?_ | refine mk ?_ | refine ex ?_ | refine lb ?_ | refine cT ?_ | refine cF ?_ | refine sg ?_ | refine sp ?_ | refine su ?_))
          refine rt ⟨?_, rfl⟩
          simp [hne h3]
        · (repeat (first | refine st ?_ | refine nl ?_ | refine sq ?_ | refine rg ?_ | refine bl ?_ | refine sk ?_ | refine bk ?_ | refine bx ?_ | refine al ?_ | refine so ?_ | refine mk ?_ | refine ex ?_ | refine lb ?_ | refine cT ?_ | refine cF ?_ | refine sg ?_ | refine sp ?_ | refine su ?_))
          refine J.back ⟨k + 1, by omega, ⟨hkl, hs h3⟩, rfl, ⟨rfl, rfl, rfl, trivial⟩, trivial⟩
      · have hkl : k = xs.length := by omega
        subst hkl
        rw [List.take_length, hl, List.take_length] at hok
        (repeat (first | refine st ?_ | refine nl ?_ | refine sq ?_ | refine rg ?_ | refine bl ?_ | refine sk ?_ | refine bk ?_ | refine bx ?_ | refine al ?_ | refine so ?_ | refine mk ?_ | refine ex ?_ | refine lb ?_ | refine cT ?_ | refine cF ?_ | refine sg ?_ | refine sp ?_ | refine su ?_))
        refine rt ⟨?_, rfl⟩
        simp [hok]
  · refine C.go hT Try.func17 Try.ntmps17 ?_
    (repeat (first | refine st ?_ | refine nl ?_ | refine sq ?_ | refine rg ?_ | refine bl ?_ | refine sk ?_ | refine bk ?_ | refine bx ?_ | refine al ?_ | refine so ?_ | refine mk ?_ | refine ex ?_ | refine lb ?_ | refine cT ?_ | refine cF ?_ | refine sg ?_ | refine sp ?_ | refine su ?_))
    refine cN (fun h0 => ?_) (fun h0 => ?_)
    · (repeat (first | refine st ?_ | refine nl ?_ | refine sq ?_ | refine rg ?_ | refine bl ?_ | refine sk ?_ | refine bk ?_ | refine bx ?_ | refine al ?_ | refine so ?_ | refine mk ?_ | refine ex ?_ | refine lb ?_ | refine cT ?_ | refine cF ?_ | refine sg ?_ | refine sp ?_ | refine su ?_))
      refine rt ⟨?_, rfl⟩
      have : xs ≠ [] := fun e => h0 (by rw [e]; rfl)
      simp [this]
    · have : xs = [] := List.eq_nil_of_length_eq_zero (by omega)
      subst this
      (repeat (first | refine st ?_ | refine nl ?_ | refine sq ?_ | refine rg ?_ | refine bl ?_ | refine sk ?_ | refine bk ?_ | refine bx ?_ | refine al ?_ | refine so ?_ | refine mk ?_ | refine ex ?_ | refine lb ?_ | refine cT ?_ | refine cF ?_ | refine sg ?_ | refine sp ?_ | refine su ?_))
      refine J.loopS (α := Unit) (fun _ => True) (fun _ => [(0, .slice (some ⟨b, off, none⟩) 0 c), (5, .int .i64 0)]) (fun _ => []) (fun _ => 0) () trivial ⟨rfl, rfl, trivial⟩ trivial ?_
      rintro _ _
      (repeat (first | refine st ?_ | refine nl ?_ | refine sq ?_ | refine rg ?_ | refine bl ?_ | refine sk ?_ | refine bk ?_ | refine bx ?_ | refine al ?_ | refine so ?_ | refine mk ?_ | refine ex ?_ | refine lb ?_ | refine cT ?_ | refine cF ?_ | refine sg ?_ | refine sp ?_ | refine su ?_))
      exact rt ⟨rfl, rfl⟩
  · refine C.go hT Try.func17 Try.ntmps17 ?_
    (repeat (first | refine st ?_ | refine nl ?_ | refine sq ?_ | refine rg ?_ | refine bl ?_ | refine sk ?_ | refine bk ?_ | refine bx ?_ | refine al ?_ | refine so ?_ | refine mk ?_ | refine ex ?_ | refine lb ?_ | refine cT ?_ | refine cF ?_ | refine sg ?_ | refine sp ?_ | refine su ?_))
    refine cN (fun h0 => ?_) (fun h0 => ?_)
    · (repeat (first | refine st ?_ | refine nl ?_ | refine sq ?_ | refine rg ?_ | refine bl ?_ | refine sk ?_ | refine bk ?_ | refine bx ?_ | refine al ?_ | refine so ?_ | refine mk ?_ | refine ex ?_ | refine lb ?_ | refine cT ?_ | refine cF ?_ | refine sg ?_ | refine sp ?_ | refine su ?_))
      refine rt ⟨?_, rfl⟩
      have : ys ≠ [] := fun e => h0 (by rw [e]; rfl)
      simp [Ne.symm this]
    · have : ys = [] := List.eq_nil_of_length_eq_zero (by omega)
      subst this
      (repeat (first | refine st ?_ | refine nl ?_ | refine sq ?_ | refine rg ?_ | refine bl ?_ | refine sk ?_ | refine bk ?_ | refine bx ?_ | refine al ?_ | refine so ?_ | refine mk ?_ | refine ex ?_ | refine lb ?_ | refine cT ?_ | refine cF ?_ | refine sg ?_ | refine sp ?_ | refine su ?_))
      refine J.loopS (α := Unit) (fun _ => True) (fun _ => [(0, .slice none 0 0), (5, .int .i64 0)]) (fun _ => []) (fun _ => 0) () trivial ⟨rfl, rfl, trivial⟩ trivial ?_
      rintro _ _
      (repeat (first | refine st ?_ | refine nl ?_ | refine sq ?_ | refine rg ?_ | refine bl ?_ | refine sk ?_ | refine bk ?_ | refine bx ?_ | refine al ?_ | refine so ?_ | refine mk ?_ | refine ex ?_ | refine lb ?_ | refine cT ?_ | refine cF ?_ | refine sg ?_ | refine sp ?_ | refine su ?_))
      exact rt ⟨rfl, rfl⟩
  · refine C.go hT Try.func17 Try.ntmps17 ?_
    (repeat (first | refine st ?_ | refine nl ?_ | refine sq ?_ | refine rg ?_ | refine bl ?_ | refine sk ?_ | refine bk ?_ | refine bx ?_ | refine al ?_ | refine so ?_ | refine mk ?_ | refine ex ?_ | refine lb ?_ | refine cT ?_ | refine cF ?_ | refine sg ?_ | refine sp ?_ | refine su ?_))
    refine J.loopS (α := Unit) (fun _ => True) (fun _ => [(0, .slice none 0 0), (5, .int .i64 0)]) (fun _ => []) (fun _ => 0) () trivial ⟨rfl, rfl, trivial⟩ trivial ?_
    rintro _ _
    (repeat (first | refine st ?_ | refine nl ?_ | refine sq ?_ | refine rg ?_ | refine bl ?_ | refine sk ?_ | refine bk ?_ | refine bx ?_ | refine al ?_ | refine so ?_ | refine mk ?_ | refine ex ?_ | refine lb ?_ | refine cT ?_ | refine cF ?_ | refine sg ?_ | refine sp ?_ | refine su ?_))
    exact rt ⟨rfl, rfl⟩
/-- where a line that goes on behind a begins, if it ends at b -/
def skipB (x : Item) : Bool := decide (x.kind = 2) || (decide (x.kind = 3) && decide (-10000 < x.cost))
def beginAt (l : List Item) (b : Nat) : Nat → Nat → Nat
  | 0, i => i
  | d + 1, i => if i < b then (if skipB (at_ l i) = true then beginAt l b d (i + 1) else i) else i
theorem RBegin_C (F : Mem) (v : Value) (l : List Item) (a b : Int) (hv : RItems F v l) (ha : -1 ≤ a) (hb : a < b) (hbl : b < l.length) : C0 Try.prog 62 [v, .int .i64 a, .int .i64 b] F (.int .i64 (beginAt l b.toNat (b.toNat - (a + 1).toNat) (a + 1).toNat)) := by
  obtain ⟨n, rfl⟩ := Int.eq_ofNat_of_zero_le (show (0 : Int) ≤ b by omega)
  obtain ⟨m, hm⟩ := Int.eq_ofNat_of_zero_le (show (0 : Int) ≤ a + 1 by omega)
  have hmn : m ≤ n := by omega
  simp only [Int.toNat_natCast, hm]
  rcases hv.cases with ⟨vb, off, c, rfl, hlen, hr⟩ | ⟨rfl, rfl⟩
  · refine C.go hT Try.func62 Try.ntmps62 ?_
    (repeat (first | refine st ?_ | refine nl ?_ | refine sq ?_ | refine rg ?_ | refine bl ?_ | refine sk ?_ | refine bk ?_ | refine bx ?_ | refine al ?_ | refine so ?_ | refine mk ?_ | refine ex ?_ | refine lb ?_ | refine cT ?_ | refine cF ?_ | refine sg ?_ | refine sp ?_ | refine su ?_))
    rw [hm]
    refine J.loopS (α := Nat) (fun k => k ≤ n ∧ beginAt l n (n - k) k = beginAt l n (n - m) m) (fun k => [(0, .slice (some ⟨vb, off, none⟩) l.length c), (2, .int .i64 n), (7, .int .i64 k)]) (fun _ => []) (fun k => n - k) m ⟨hmn, rfl⟩ ⟨rfl, rfl, rfl, trivial⟩ trivial ?_
    rintro k ⟨hk, hok⟩
    (repeat (first | refine st ?_ | refine nl ?_ | refine sq ?_ | refine rg ?_ | refine bl ?_ | refine sk ?_ | refine bk ?_ | refine bx ?_ | refine al ?_ | refine so ?_ | refine mk ?_ | refine ex ?_ | refine lb ?_ | refine cT ?_ | refine cF ?_ | refine sg ?_ | refine sp ?_ | refine su ?_))
    refine gD (fun h2 => ?_) (fun h2 => ?_)
    · have hkn : k < n := by omega
      obtain ⟨r0, _, _, _, r4, _, _⟩ := hr k (by omega)
      have hst : beginAt l n (n - k) k = if skipB (at_ l k) = true then beginAt l n (n - (k + 1)) (k + 1) else k := by
        rw [show n - k = (n - (k + 1)) + 1 from by omega]
        simp [beginAt, hkn]
      rw [hst] at hok
      clear hr hv hst
      generalize at_ l k = x at r0 r4 hok
      (repeat' (first | refine st ?_ | refine nl ?_ | refine sq ?_ | refine rg ?_ | refine bl ?_ | refine sk ?_ | refine bk ?_ | refine bx ?_ | refine al ?_ | refine so ?_ | refine mk ?_ | refine ex ?_ | refine lb ?_ | refine cT ?_ | refine cF ?_ | refine sg ?_ | refine sp ?_ | refine su ?_ | refine gD (fun _ => ?_) (fun _ => ?_) | refine gN (fun _ => ?_) (fun _ => ?_) | refine cD (fun _ => ?_) (fun _ => ?_) | refine cN (fun _ => ?_) (fun _ => ?_)))
      all_goals first
        | (refine J.back ⟨k + 1, by omega, ⟨by omega, ?_⟩, rfl, ⟨rfl, rfl, rfl, trivial⟩, trivial⟩
           rw [← hok, if_pos (by simp [skipB, *])])
        | (refine rt ⟨?_, rfl⟩
           rw [← hok, if_neg (by simp [skipB, *])])
    · have hkn : k = n := by omega
      subst hkn
      (repeat (first | refine st ?_ | refine nl ?_ | refine sq ?_ | refine rg ?_ | refine bl ?_ | refine sk ?_ | refine bk ?_ | refine bx ?_ | refine al ?_ | refine so ?_ | refine mk ?_ | refine ex ?_ | refine lb ?_ | refine cT ?_ | refine cF ?_ | refine sg ?_ | refine sp ?_ | refine su ?_))
      refine rt ⟨?_, rfl⟩
      rw [← hok]
      simp [beginAt]
  · simp at hbl; omega

end Go.Proofs.Ytbeblgjibfoanaa.Am
namespace Go.Proofs.Ytbeblgjibfoanaa.Am
set_option linter.unusedSimpArgs false
set_option linter.unusedVariables false
set_option maxRecDepth 100000
set_option maxHeartbeats 4000000
open Go Go.RowKit
def wS (l : List Item) : Nat → Int
  | 0 => 0
  | n + 1 => wS l n + (if (at_ l n).kind = 3 then 0 else (at_ l n).width)
def yS (l : List Item) : Nat → Int
  | 0 => 0
  | n + 1 => yS l n + (if (at_ l n).kind = 2 then (at_ l n).stretch else 0)
def zS (l : List Item) : Nat → Int
  | 0 => 0
  | n + 1 => zS l n + (if (at_ l n).kind = 2 then (at_ l n).shrink else 0)
def foD (l : List Item) : Nat → Nat → Nat
  | 0, i => i
  | d + 1, i => if forceB (at_ l i) = true then i else foD l d (i + 1)
def bgD (l : List Item) : Nat → Nat → Nat
  | 0, i => i
  | d + 1, i => if forceB (at_ l i) = true then i else if (at_ l i).kind = 1 then i else bgD l d (i + 1)
def foA (l : List Item) (i : Nat) : Nat := foD l (l.length - i) i
def bgA (l : List Item) (i : Nat) : Nat := bgD l (l.length - i) i
theorem foD_bd (l : List Item) : ∀ d i, i ≤ foD l d i ∧ foD l d i ≤ i + d
  | 0, i => by simp [foD]
  | d + 1, i => by
    simp only [foD]
    have := foD_bd l d (i + 1)
    split <;> omega
theorem bgD_bd (l : List Item) : ∀ d i, i ≤ bgD l d i ∧ bgD l d i ≤ i + d
  | 0, i => by simp [bgD]
  | d + 1, i => by
    simp only [bgD]
    have := bgD_bd l d (i + 1)
    split
    · omega
    · split <;> omega
theorem good_ok {l : List Item} (h : goodL l = true) {i : Nat} (hi : i < l.length) : (at_ l i).ok = true := by
  simp only [goodL, Bool.and_eq_true] at h
  exact List.all_eq_true.1 h.1.1.1.2 _ (List.mem_of_getElem? (at_get hi))
theorem good_len {l : List Item} (h : goodL l = true) : 1 ≤ l.length ∧ l.length ≤ 1024 := by
  simp only [goodL, Bool.and_eq_true, decide_eq_true_eq] at h
  exact h.1.1.1.1
theorem sums_bd {l : List Item} (h : goodL l = true) : ∀ n, n ≤ l.length → (0 ≤ wS l n ∧ wS l n ≤ 1073741824 * n) ∧ (0 ≤ yS l n ∧ yS l n ≤ 1073741824 * n) ∧ (0 ≤ zS l n ∧ zS l n ≤ 1073741824 * n)
  | 0, _ => by simp [wS, yS, zS]
  | n + 1, hn => by
    have ih := sums_bd h n (by omega)
    have hk := good_ok h (show n < l.length by omega)
    simp only [Item.ok, decide_eq_true_eq] at hk
    simp only [wS, yS, zS]
    refine ⟨?_, ?_, ?_⟩ <;> split <;> omega
/-- a paragraph made ready, where it lies -/
def RPara (F : Mem) (p : Value) (l : List Item) : Prop :=
  ∃ pb po lb lo lc wb wo wc yb yo yc zb zo zc bb bo bc fb fo fc, p = .pointer (some ⟨pb, po, none⟩) ∧
    (look F ⟨pb, po + 0, none⟩ = some (.slice (some ⟨lb, lo, none⟩) l.length lc) ∧ look F ⟨pb, po + 1, none⟩ = some (.slice (some ⟨wb, wo, none⟩) (l.length + 1) wc) ∧ look F ⟨pb, po + 2, none⟩ = some (.slice (some ⟨yb, yo, none⟩) (l.length + 1) yc) ∧
    look F ⟨pb, po + 3, none⟩ = some (.slice (some ⟨zb, zo, none⟩) (l.length + 1) zc) ∧ look F ⟨pb, po + 4, none⟩ = some (.slice (some ⟨bb, bo, none⟩) (l.length + 1) bc) ∧ look F ⟨pb, po + 5, none⟩ = some (.slice (some ⟨fb, fo, none⟩) (l.length + 1) fc)) ∧
    RItems F (.slice (some ⟨lb, lo, none⟩) l.length lc) l ∧
    (∀ i, i ≤ l.length → look F ⟨wb, wo + i * 1, none⟩ = some (.int .i64 (wS l i)) ∧ look F ⟨yb, yo + i * 1, none⟩ = some (.int .i64 (yS l i)) ∧ look F ⟨zb, zo + i * 1, none⟩ = some (.int .i64 (zS l i)) ∧
      look F ⟨bb, bo + i * 1, none⟩ = some (.int .i64 (bgA l i)) ∧ look F ⟨fb, fo + i * 1, none⟩ = some (.int .i64 (foA l i)))
theorem RPara.le {F F' : Mem} {p : Value} {l : List Item} (h : RPara F p l) (hl : F.le F') : RPara F' p l := by
  obtain ⟨pb, po, lb, lo, lc, wb, wo, wc, yb, yo, yc, zb, zo, zc, bb, bo, bc, fb, fo, fc, h0, ⟨h1, h2, h3, h4, h5, h6⟩, h7, h8⟩ := h
  refine ⟨pb, po, lb, lo, lc, wb, wo, wc, yb, yo, yc, zb, zo, zc, bb, bo, bc, fb, fo, fc, h0, ⟨hl _ _ h1, hl _ _ h2, hl _ _ h3, hl _ _ h4, hl _ _ h5, hl _ _ h6⟩, h7.le hl, fun i hi => ?_⟩
  obtain ⟨g1, g2, g3, g4, g5⟩ := h8 i hi
  exact ⟨hl _ _ g1, hl _ _ g2, hl _ _ g3, hl _ _ g4, hl _ _ g5⟩
def lineV (w y z bad cls : Int) (fits : Bool) : Value := .agg #[.int .i64 w, .int .i64 y, .int .i64 z, .int .i64 bad, .int .i64 cls, .bool fits]
def fromA (l : List Item) (a1 b : Nat) : Nat := min (bgA l a1) b
def mW (l : List Item) (a1 b : Nat) : Int := wS l b - wS l (fromA l a1 b) + (if (at_ l b).kind = 3 then (at_ l b).width else 0)
def mY (l : List Item) (a1 b : Nat) : Int := yS l b - yS l (fromA l a1 b)
def mZ (l : List Item) (a1 b : Nat) : Int := zS l b - zS l (fromA l a1 b)
theorem measure_C (F : Mem) (p : Value) (l : List Item) (a : Int) (a1 b : Nat) (hp : RPara F p l) (hg : goodL l = true) (ha : a + 1 = a1) (ha1 : a1 ≤ l.length) (hb : b < l.length) : C0 Try.prog 44 [p, .int .i64 a, .int .i64 b] F (lineV (mW l a1 b) (mY l a1 b) (mZ l a1 b) 0 0 false) := by
  obtain ⟨pb, po, lb, lo, lc, wb, wo, wc, yb, yo, yc, zb, zo, zc, bb, bo, bc, fb, fo, fc, rfl, ⟨h1, h2, h3, h4, h5, h6⟩, h7, h8⟩ := hp
  have hlen := good_len hg
  have hok := good_ok hg hb
  simp only [Item.ok, decide_eq_true_eq] at hok
  obtain ⟨_, _, _, q1, _⟩ := h8 a1 ha1
  have hfr : fromA l a1 b ≤ b := Nat.min_le_right _ _
  obtain ⟨g1, g2, g3, _, _⟩ := h8 b (by omega)
  obtain ⟨f1, f2, f3, _, _⟩ := h8 (fromA l a1 b) (by omega)
  have s1 := sums_bd hg b (by omega)
  have s2 := sums_bd hg (fromA l a1 b) (by omega)
  have hfi : min (bgA l a1 : Int) (b : Int) = (fromA l a1 b : Nat) := by unfold fromA; omega
  rcases h7.cases with ⟨lb', lo', lc', e1, _, hr⟩ | ⟨e1, _⟩
  · simp only [Value.slice.injEq, Option.some.injEq, Addr.mk.injEq, and_true, true_and] at e1
    obtain ⟨⟨rfl, rfl⟩, rfl⟩ := e1
    obtain ⟨r0, r1, _, _, _, _, _⟩ := hr b hb
    simp only [mW, mY, mZ]
    clear h8 hr h7 hg
    generalize fromA l a1 b = f at *
    generalize at_ l b = x at *
    generalize bgA l a1 = g at *
    generalize wS l b = w at *
    generalize wS l f = w2 at *
    generalize yS l b = y at *
    generalize yS l f = y2 at *
    generalize zS l b = z at *
    generalize zS l f = z2 at *
    have q1' : look F ⟨bb, bo + (a + 1).toNat * 1, none⟩ = some (.int .i64 (g : Int)) := by rw [ha]; exact q1
    refine C.go hT Try.func44 Try.ntmps44 ?_
    (repeat (first | refine st ?_ | refine nl ?_ | refine sq ?_ | refine rg ?_ | refine bl ?_ | refine sk ?_ | refine bk ?_ | refine bx ?_ | refine al ?_ | refine so ?_ | refine mk ?_ | refine ex ?_ | refine lb ?_ | refine cT ?_ | refine cF ?_ | refine sg ?_ | refine sp ?_ | refine su ?_))
    rw [hfi]
    refine dr 47 [6] [0, 1, 2, 3, 4, 5, 6, 7, 8, 9, 10, 11, 12, 13, 14, 15, 16, 17, 18, 19, 20, 21, 22, 23, 24, 25, 26, 27, 28, 29, 30, 31, 32, 33, 34, 35, 36, 37, 38, 39, 40, 41, 42, 43, 44, 45, 1046, 1047] ?_
    (repeat (first | refine dt ?_ | refine dg ?_ | refine dp ?_ | refine du ?_ | refine dq ?_ | refine dqg ?_ | refine dqp ?_ | refine dqu ?_ | refine dso ?_ | refine dal ?_ | refine dmk ?_ | refine dbx ?_ | refine dv ?_ | refine dpe ?_ | refine dn ?_ | refine st ?_ | refine nl ?_ | refine sq ?_ | refine rg ?_ | refine bl ?_ | refine sk ?_ | refine bk ?_ | refine bx ?_ | refine al ?_ | refine so ?_ | refine mk ?_ | refine ex ?_ | refine lb ?_ | refine cT ?_ | refine cF ?_ | refine sg ?_ | refine sp ?_ | refine su ?_))
    refine cD (fun hk => ?_) (fun hk => ?_)
    · refine dr 12 [6, 8] [0, 1, 2, 3, 4, 5, 6, 7, 8, 9, 10, 11, 1012] ?_
      (repeat (first | refine dt ?_ | refine dg ?_ | refine dp ?_ | refine du ?_ | refine dq ?_ | refine dqg ?_ | refine dqp ?_ | refine dqu ?_ | refine dso ?_ | refine dal ?_ | refine dmk ?_ | refine dbx ?_ | refine dv ?_ | refine dpe ?_ | refine dn ?_ | refine st ?_ | refine nl ?_ | refine sq ?_ | refine rg ?_ | refine bl ?_ | refine sk ?_ | refine bk ?_ | refine bx ?_ | refine al ?_ | refine so ?_ | refine mk ?_ | refine ex ?_ | refine lb ?_ | refine cT ?_ | refine cF ?_ | refine sg ?_ | refine sp ?_ | refine su ?_))
      exact rt ⟨by rw [if_pos hk], rfl⟩
    · (repeat (first | refine st ?_ | refine nl ?_ | refine sq ?_ | refine rg ?_ | refine bl ?_ | refine sk ?_ | refine bk ?_ | refine bx ?_ | refine al ?_ | refine so ?_ | refine mk ?_ | refine ex ?_ | refine lb ?_ | refine cT ?_ | refine cF ?_ | refine sg ?_ | refine sp ?_ | refine su ?_))
      exact rt ⟨by rw [if_neg hk, Int.add_zero], rfl⟩
  · simp at e1

end Go.Proofs.Ytbeblgjibfoanaa.Am
namespace Go.Proofs.Ytbeblgjibfoanaa.Am
set_option linter.unusedSimpArgs false
set_option linter.unusedVariables false
set_option maxRecDepth 100000
set_option maxHeartbeats 4000000
open Go Go.RowKit
def badD (y z : Int) : Int :=
  if min (max y 0) 1099511627776 = 0 then 0 else if min (max z 0) 1099511627776 = 0 then 10000
  else if 1290 < 297 * min (max y 0) 1099511627776 / min (max z 0) 1099511627776 then 10000
  else (297 * min (max y 0) 1099511627776 / min (max z 0) 1099511627776 * (297 * min (max y 0) 1099511627776 / min (max z 0) 1099511627776) * (297 * min (max y 0) 1099511627776 / min (max z 0) 1099511627776) + 131072) / 262144
theorem cube_bd {q : Int} (h0 : 0 ≤ q) (h1 : q ≤ 1290) : (0 ≤ q * q ∧ q * q ≤ 1664100) ∧ 0 ≤ q * q * q ∧ q * q * q ≤ 2146689000 := by
  have a : 0 ≤ q * q := Int.mul_nonneg h0 h0
  have b : q * q ≤ 1290 * 1290 := Int.mul_le_mul h1 h1 h0 (by omega)
  exact ⟨⟨a, by omega⟩, Int.mul_nonneg a h0, by have := Int.mul_le_mul b h1 h0 (by omega); omega⟩
theorem Bad_C (F : Mem) (y z : Int) : C0 Try.prog 55 [.int .i64 y, .int .i64 z] F (.int .i64 (badD y z)) := by
  refine C.go hT Try.func55 Try.ntmps55 ?_
  unfold badD
  have hy : 0 ≤ min (max y 0) 1099511627776 ∧ min (max y 0) 1099511627776 ≤ 1099511627776 := by omega
  have hz : 0 ≤ min (max z 0) 1099511627776 ∧ min (max z 0) 1099511627776 ≤ 1099511627776 := by omega
  (repeat (first | refine st ?_ | refine nl ?_ | refine sq ?_ | refine rg ?_ | refine bl ?_ | refine sk ?_ | refine bk ?_ | refine bx ?_ | refine al ?_ | refine so ?_ | refine mk ?_ | refine ex ?_ | refine lb ?_ | refine cT ?_ | refine cF ?_ | refine sg ?_ | refine sp ?_ | refine su ?_))
  generalize min (max y 0) 1099511627776 = y' at *
  generalize min (max z 0) 1099511627776 = z' at *
  refine cD (fun h0 => ?_) (fun h0 => ?_)
  · (repeat (first | refine st ?_ | refine nl ?_ | refine sq ?_ | refine rg ?_ | refine bl ?_ | refine sk ?_ | refine bk ?_ | refine bx ?_ | refine al ?_ | refine so ?_ | refine mk ?_ | refine ex ?_ | refine lb ?_ | refine cT ?_ | refine cF ?_ | refine sg ?_ | refine sp ?_ | refine su ?_))
    refine rt ⟨?_, rfl⟩
    rw [if_pos h0]
  · rw [if_neg h0]
    (repeat (first | refine st ?_ | refine nl ?_ | refine sq ?_ | refine rg ?_ | refine bl ?_ | refine sk ?_ | refine bk ?_ | refine bx ?_ | refine al ?_ | refine so ?_ | refine mk ?_ | refine ex ?_ | refine lb ?_ | refine cT ?_ | refine cF ?_ | refine sg ?_ | refine sp ?_ | refine su ?_))
    refine cD (fun h1 => ?_) (fun h1 => ?_)
    · (repeat (first | refine st ?_ | refine nl ?_ | refine sq ?_ | refine rg ?_ | refine bl ?_ | refine sk ?_ | refine bk ?_ | refine bx ?_ | refine al ?_ | refine so ?_ | refine mk ?_ | refine ex ?_ | refine lb ?_ | refine cT ?_ | refine cF ?_ | refine sg ?_ | refine sp ?_ | refine su ?_))
      refine rt ⟨?_, rfl⟩
      rw [if_pos h1]
    · rw [if_neg h1]
      have hq0 : 0 ≤ 297 * y' / z' := Int.ediv_nonneg (by omega) (by omega)
      (repeat (first | refine st ?_ | refine nl ?_ | refine sq ?_ | refine rg ?_ | refine bl ?_ | refine sk ?_ | refine bk ?_ | refine bx ?_ | refine al ?_ | refine so ?_ | refine mk ?_ | refine ex ?_ | refine lb ?_ | refine cT ?_ | refine cF ?_ | refine sg ?_ | refine sp ?_ | refine su ?_))
      generalize 297 * y' / z' = q at *
      refine cD (fun h2 => ?_) (fun h2 => ?_)
      · (repeat (first | refine st ?_ | refine nl ?_ | refine sq ?_ | refine rg ?_ | refine bl ?_ | refine sk ?_ | refine bk ?_ | refine bx ?_ | refine al ?_ | refine so ?_ | refine mk ?_ | refine ex ?_ | refine lb ?_ | refine cT ?_ | refine cF ?_ | refine sg ?_ | refine sp ?_ | refine su ?_))
        refine rt ⟨?_, rfl⟩
        rw [if_pos h2]
      · have := cube_bd hq0 (by omega)
        rw [if_neg h2]
        (repeat (first | refine st ?_ | refine nl ?_ | refine sq ?_ | refine rg ?_ | refine bl ?_ | refine sk ?_ | refine bk ?_ | refine bx ?_ | refine al ?_ | refine so ?_ | refine mk ?_ | refine ex ?_ | refine lb ?_ | refine cT ?_ | refine cF ?_ | refine sg ?_ | refine sp ?_ | refine su ?_ | refine st (h := SD.shrK rfl rfl (by omega)) ?_))
        refine rt ⟨?_, rfl⟩
        rw [Int.fdiv_eq_ediv_of_nonneg _ (by decide)]; rfl
def classD (y z : Int) (f : Bool) : Int := if badD y z ≤ 12 then 1 else if f = true then 0 else if badD y z ≤ 99 then 2 else 3
theorem Class_C (F : Mem) (y z : Int) (f : Bool) : C0 Try.prog 40 [.int .i64 y, .int .i64 z, .bool f] F (.int .i64 (classD y z f)) := by
  refine C.go hT Try.func40 Try.ntmps40 ?_
  (repeat' (first | refine st ?_ | refine nl ?_ | refine sq ?_ | refine rg ?_ | refine bl ?_ | refine sk ?_ | refine bk ?_ | refine bx ?_ | refine al ?_ | refine so ?_ | refine mk ?_ | refine ex ?_ | refine lb ?_ | refine cT ?_ | refine cF ?_ | refine sg ?_ | refine sp ?_ | refine su ?_ | refine gD (fun _ => ?_) (fun _ => ?_) | refine gN (fun _ => ?_) (fun _ => ?_) | refine cD (fun _ => ?_) (fun _ => ?_) | refine cN (fun _ => ?_) (fun _ => ?_) | refine cl ?_ (h := by exact fun _ _ _ => limits_C _) | refine cl ?_ (h := by exact fun _ _ _ => Bad_C _ _ _) | refine cB (fun _ => ?_) (fun _ => ?_)))
  all_goals (refine rt ⟨?_, rfl⟩; simp only [classD, *, if_true, if_false, Bool.false_eq_true])
def costA (l : List Item) (a : Int) : Int := if 0 ≤ a then costB (at_ l a.toNat) else 0
def flagA (l : List Item) (a : Int) : Bool := decide (0 ≤ a) && flagB (at_ l a.toNat)
theorem cost_C (F : Mem) (p : Value) (l : List Item) (a : Int) (hp : RPara F p l) (ha : a < l.length) : C0 Try.prog 56 [p, .int .i64 a] F (.tuple #[.int .i64 (costA l a), .bool (flagA l a)]) := by
  obtain ⟨pb, po, lb, lo, lc, wb, wo, wc, yb, yo, yc, zb, zo, zc, bb, bo, bc, fb, fo, fc, rfl, ⟨h1, h2, h3, h4, h5, h6⟩, h7, h8⟩ := hp
  clear h2 h3 h4 h5 h6 h8
  rcases h7.cases with ⟨lb', lo', lc', e1, _, hr⟩ | ⟨e1, _⟩
  · simp only [Value.slice.injEq, Option.some.injEq, Addr.mk.injEq, and_true, true_and] at e1
    obtain ⟨⟨rfl, rfl⟩, rfl⟩ := e1
    refine C.go hT Try.func56 Try.ntmps56 ?_
    (repeat (first | refine st ?_ | refine nl ?_ | refine sq ?_ | refine rg ?_ | refine bl ?_ | refine sk ?_ | refine bk ?_ | refine bx ?_ | refine al ?_ | refine so ?_ | refine mk ?_ | refine ex ?_ | refine lb ?_ | refine cT ?_ | refine cF ?_ | refine sg ?_ | refine sp ?_ | refine su ?_))
    refine gD (fun h0 => ?_) (fun h0 => ?_)
    · (repeat (first | refine st ?_ | refine nl ?_ | refine sq ?_ | refine rg ?_ | refine bl ?_ | refine sk ?_ | refine bk ?_ | refine bx ?_ | refine al ?_ | refine so ?_ | refine mk ?_ | refine ex ?_ | refine lb ?_ | refine cT ?_ | refine cF ?_ | refine sg ?_ | refine sp ?_ | refine su ?_))
      refine rt ⟨?_, rfl⟩
      have : ¬ 0 ≤ a := by omega
      simp [costA, flagA, this]
    · have h0' : 0 ≤ a := by omega
      obtain ⟨r0, r1, r2, r3, r4, r5, _⟩ := hr a.toNat (by omega)
      clear hr h7
      simp only [costA, flagA, if_pos h0', decide_eq_true h0', Bool.true_and, costB, flagB]
      generalize at_ l a.toNat = x at *
      (repeat (first | refine st ?_ | refine nl ?_ | refine sq ?_ | refine rg ?_ | refine bl ?_ | refine sk ?_ | refine bk ?_ | refine bx ?_ | refine al ?_ | refine so ?_ | refine mk ?_ | refine ex ?_ | refine lb ?_ | refine cT ?_ | refine cF ?_ | refine sg ?_ | refine sp ?_ | refine su ?_))
      refine cN (fun h3 => ?_) (fun h3 => ?_)
      · (repeat (first | refine st ?_ | refine nl ?_ | refine sq ?_ | refine rg ?_ | refine bl ?_ | refine sk ?_ | refine bk ?_ | refine bx ?_ | refine al ?_ | refine so ?_ | refine mk ?_ | refine ex ?_ | refine lb ?_ | refine cT ?_ | refine cF ?_ | refine sg ?_ | refine sp ?_ | refine su ?_))
        refine rt ⟨?_, rfl⟩
        simp [h3]
      · (repeat (first | refine st ?_ | refine nl ?_ | refine sq ?_ | refine rg ?_ | refine bl ?_ | refine sk ?_ | refine bk ?_ | refine bx ?_ | refine al ?_ | refine so ?_ | refine mk ?_ | refine ex ?_ | refine lb ?_ | refine cT ?_ | refine cF ?_ | refine sg ?_ | refine sp ?_ | refine su ?_))
        refine dr 18 [] [0, 1, 2, 3, 4, 5, 6, 7, 8, 9, 10, 11, 12, 13, 14, 15, 16, 17] ?_
        (repeat (first | refine dt ?_ | refine dg ?_ | refine dp ?_ | refine du ?_ | refine dq ?_ | refine dqg ?_ | refine dqp ?_ | refine dqu ?_ | refine dso ?_ | refine dal ?_ | refine dmk ?_ | refine dbx ?_ | refine dv ?_ | refine dpe ?_ | refine dn ?_ | refine st ?_ | refine nl ?_ | refine sq ?_ | refine rg ?_ | refine bl ?_ | refine sk ?_ | refine bk ?_ | refine bx ?_ | refine al ?_ | refine so ?_ | refine mk ?_ | refine ex ?_ | refine lb ?_ | refine cT ?_ | refine cF ?_ | refine sg ?_ | refine sp ?_ | refine su ?_))
        refine rt ⟨?_, rfl⟩
        simp [h3]
  · simp at e1
/-- what a line costs: its badness, its class, the class before it, where it begins and ends -/
def demD (l : List Item) (x : Par) (bad cls prev a b : Int) : Int := lineD x.line bad (costA l b) + moreD prev cls (flagA l a) (flagA l b) x
theorem lineD_bd (l b p : Int) : -100000000 ≤ lineD l b p ∧ lineD l b p ≤ 221000000 := by
  have h1 := sq_bd (x := min (max l 0) 1000 + min (max b 0) 10000) (n := 11000) (by omega) (by omega)
  have h2 := sq_bd (x := min (max p (-10000)) 10000) (n := 10000) (by omega) (by omega)
  unfold lineD
  (repeat' split) <;> omega
theorem moreD_bd (a b : Int) (f g : Bool) (x : Par) : 0 ≤ moreD a b f g x ∧ moreD a b f g x ≤ 2000000 := by
  unfold moreD
  (repeat' split) <;> omega
theorem demerits_C (F : Mem) (p : Value) (l : List Item) (w y z bad cls prev a b : Int) (fits : Bool) (x : Par) (hp : RPara F p l) (ha : a < l.length) (hb : b < l.length) : C0 Try.prog 39 [p, lineV w y z bad cls fits, .int .i64 prev, .int .i64 a, .int .i64 b, x.v] F (.int .i64 (demD l x bad cls prev a b)) := by
  have hl := lineD_bd x.line bad (costA l b)
  have hm := moreD_bd prev cls (flagA l a) (flagA l b) x
  unfold demD
  obtain ⟨pb, po, lb, lo, lc, wb, wo, wc, yb, yo, yc, zb, zo, zc, bb, bo, bc, fb, fo, fc, rfl, hp2⟩ := id hp
  clear hp2
  generalize hx : x = x' at *
  obtain ⟨xw, tol, line, twice, odd⟩ := x
  subst hx
  dsimp only [Par.v, lineV] at *
  refine C.go hT Try.func39 Try.ntmps39 ?_
  (repeat (first | refine st ?_ | refine nl ?_ | refine sq ?_ | refine rg ?_ | refine bl ?_ | refine sk ?_ | refine bk ?_ | refine bx ?_ | refine al ?_ | refine so ?_ | refine mk ?_ | refine ex ?_ | refine lb ?_ | refine cT ?_ | refine cF ?_ | refine sg ?_ | refine sp ?_ | refine su ?_ | refine cl ?_ (h := by exact fun _ _ hl => cost_C _ _ l _ (hp.le hl) (by assumption))))
  refine dr 15 [7, 11] [0, 1, 2, 3, 4, 6, 7, 8, 9, 10, 11, 1005, 1012, 13, 14] ?_
  (repeat (first | refine dt ?_ | refine dg ?_ | refine dp ?_ | refine du ?_ | refine dq ?_ | refine dqg ?_ | refine dqp ?_ | refine dqu ?_ | refine dso ?_ | refine dal ?_ | refine dmk ?_ | refine dbx ?_ | refine dv ?_ | refine dpe ?_ | refine dn ?_))
  refine dcl ?_ (h := by exact fun _ _ _ => Line_C _ _ _ _)
  (repeat (first | refine dt ?_ | refine dg ?_ | refine dp ?_ | refine du ?_ | refine dq ?_ | refine dqg ?_ | refine dqp ?_ | refine dqu ?_ | refine dso ?_ | refine dal ?_ | refine dmk ?_ | refine dbx ?_ | refine dv ?_ | refine dpe ?_ | refine dn ?_))
  refine dcl ?_ (h := by exact fun _ _ _ => More_C _ _ _ _ _ ⟨xw, tol, line, twice, odd⟩)
  (repeat (first | refine dt ?_ | refine dg ?_ | refine dp ?_ | refine du ?_ | refine dq ?_ | refine dqg ?_ | refine dqp ?_ | refine dqu ?_ | refine dso ?_ | refine dal ?_ | refine dmk ?_ | refine dbx ?_ | refine dv ?_ | refine dpe ?_ | refine dn ?_ | refine st ?_ | refine nl ?_ | refine sq ?_ | refine rg ?_ | refine bl ?_ | refine sk ?_ | refine bk ?_ | refine bx ?_ | refine al ?_ | refine so ?_ | refine mk ?_ | refine ex ?_ | refine lb ?_ | refine cT ?_ | refine cF ?_ | refine sg ?_ | refine sp ?_ | refine su ?_))
  exact rt ⟨rfl, rfl⟩

end Go.Proofs.Ytbeblgjibfoanaa.Am
namespace Go.Proofs.Ytbeblgjibfoanaa.Am
set_option linter.unusedSimpArgs false
set_option linter.unusedVariables false
set_option maxRecDepth 100000
set_option maxHeartbeats 4000000
open Go Go.RowKit
/-- a pointer to what begins with items -/
def RHead (F : Mem) (p : Value) (l : List Item) : Prop := ∃ pb po v, p = .pointer (some ⟨pb, po, none⟩) ∧ look F ⟨pb, po + 0, none⟩ = some v ∧ RItems F v l
theorem RHead.le {F F' : Mem} {p : Value} {l : List Item} (h : RHead F p l) (hl : F.le F') : RHead F' p l := by
  obtain ⟨pb, po, v, h1, h2, h3⟩ := h
  exact ⟨pb, po, v, h1, hl _ _ h2, h3.le hl⟩
theorem RPara.head {F : Mem} {p : Value} {l : List Item} (h : RPara F p l) : RHead F p l := by
  obtain ⟨pb, po, lb, lo, lc, wb, wo, wc, yb, yo, yc, zb, zo, zc, bb, bo, bc, fb, fo, fc, h0, ⟨h1, h2, h3, h4, h5, h6⟩, h7, h8⟩ := h
  exact ⟨pb, po, _, h0, h1, h7⟩
theorem legal_C (F : Mem) (p : Value) (l : List Item) (i : Int) (hp : RHead F p l) : C0 Try.prog 37 [p, .int .i64 i] F (.bool (legalB l i)) := by
  obtain ⟨pb, po, v, rfl, h1, hv⟩ := hp
  by_cases hi : 0 ≤ i ∧ i < l.length
  · obtain ⟨k, rfl⟩ := Int.eq_ofNat_of_zero_le hi.1
    have hkl : k < l.length := by omega
    rcases hv.cases with ⟨b, off, c, rfl, hlen, hr⟩ | ⟨rfl, rfl⟩
    · obtain ⟨r0, r1, r2, r3, r4, r5, g, hg, hri⟩ := hr k hkl
      have p0 : 0 < k → look F ⟨b, off + ((k : Int) - 1).toNat * 11 + 0, none⟩ = some (.int .i64 (at_ l ((k : Int) - 1).toNat).kind) := fun h => (hr _ (by omega)).1
      have hL : legalB l (k : Int) = ((decide ((at_ l k).kind = 2) && decide ((0 : Int) < (k : Int)) && decide ((at_ l ((k : Int) - 1).toNat).kind = 1)) || (decide ((at_ l k).kind = 3) && decide ((at_ l k).cost < 10000))) := by simp [legalB, hkl]
      rw [hL]
      clear hr hv hL
      have hN : rdN F [] ⟨b, off + k * 11, none⟩ 11 = some ((at_ l k).cells g) := hg
      generalize at_ l k = x at *
      generalize at_ l ((k : Int) - 1).toNat = y at *
      rcases hri with (⟨gb, go, gc, rfl, _, _⟩ | ⟨rfl, _⟩) | ⟨gb, go, gsp, rfl, _⟩
      all_goals refine C.go hT Try.func37 Try.ntmps37 ?_
      all_goals
        by_cases hk0 : 0 < k
        · have p := p0 hk0
          (repeat' (first | refine st ?_ | refine nl ?_ | refine sq ?_ | refine rg ?_ | refine bl ?_ | refine sk ?_ | refine bk ?_ | refine bx ?_ | refine al ?_ | refine so ?_ | refine mk ?_ | refine ex ?_ | refine lb ?_ | refine cT ?_ | refine cF ?_ | refine sg ?_ | refine sp ?_ | refine su ?_ | refine gD (fun _ => ?_) (fun _ => ?_) | refine gN (fun _ => ?_) (fun _ => ?_) | refine cD (fun _ => ?_) (fun _ => ?_) | refine cN (fun _ => ?_) (fun _ => ?_)))
          all_goals first
            | (exfalso; omega)
            | (refine rt ⟨?_, rfl⟩; simp [*])
        · (repeat' (first | refine st ?_ | refine nl ?_ | refine sq ?_ | refine rg ?_ | refine bl ?_ | refine sk ?_ | refine bk ?_ | refine bx ?_ | refine al ?_ | refine so ?_ | refine mk ?_ | refine ex ?_ | refine lb ?_ | refine cT ?_ | refine cF ?_ | refine sg ?_ | refine sp ?_ | refine su ?_ | refine gD (fun _ => ?_) (fun _ => ?_) | refine gN (fun _ => ?_) (fun _ => ?_) | refine cD (fun _ => ?_) (fun _ => ?_) | refine cN (fun _ => ?_) (fun _ => ?_)))
          all_goals first
            | (exfalso; omega)
            | (refine rt ⟨?_, rfl⟩; simp [*])
    · simp at hkl
  · have h0 : legalB l i = false := by simp only [legalB, hi, decide_false, Bool.false_and]
    rw [h0]
    rcases hv.cases with ⟨b, off, c, rfl, hlen, hr⟩ | ⟨rfl, rfl⟩
    all_goals
      refine C.go hT Try.func37 Try.ntmps37 ?_
      (repeat (first | refine st ?_ | refine nl ?_ | refine sq ?_ | refine rg ?_ | refine bl ?_ | refine sk ?_ | refine bk ?_ | refine bx ?_ | refine al ?_ | refine so ?_ | refine mk ?_ | refine ex ?_ | refine lb ?_ | refine cT ?_ | refine cF ?_ | refine sg ?_ | refine sp ?_ | refine su ?_))
      refine gD (fun h0 => ?_) (fun h0 => ?_)
      · (repeat (first | refine st ?_ | refine nl ?_ | refine sq ?_ | refine rg ?_ | refine bl ?_ | refine sk ?_ | refine bk ?_ | refine bx ?_ | refine al ?_ | refine so ?_ | refine mk ?_ | refine ex ?_ | refine lb ?_ | refine cT ?_ | refine cF ?_ | refine sg ?_ | refine sp ?_ | refine su ?_))
        exact rt ⟨rfl, rfl⟩
      · (repeat (first | refine st ?_ | refine nl ?_ | refine sq ?_ | refine rg ?_ | refine bl ?_ | refine sk ?_ | refine bk ?_ | refine bx ?_ | refine al ?_ | refine so ?_ | refine mk ?_ | refine ex ?_ | refine lb ?_ | refine cT ?_ | refine cF ?_ | refine sg ?_ | refine sp ?_ | refine su ?_))
        refine cD (fun h1 => ?_) (fun h1 => ?_)
        · (repeat (first | refine st ?_ | refine nl ?_ | refine sq ?_ | refine rg ?_ | refine bl ?_ | refine sk ?_ | refine bk ?_ | refine bx ?_ | refine al ?_ | refine so ?_ | refine mk ?_ | refine ex ?_ | refine lb ?_ | refine cT ?_ | refine cF ?_ | refine sg ?_ | refine sp ?_ | refine su ?_))
          exact rt ⟨rfl, rfl⟩
        · first | (exfalso; omega) | (exfalso; simp at h1 h0 hi; omega)
/-- how a line is judged, by its room and what it stretches and shrinks -/
structure Jud where
  bad : Int
  cls : Int
  fits : Bool
def judD (l : List Item) (x : Par) (a1 b : Nat) : Jud :=
  if x.w - mW l a1 b < 0 then ⟨badD (-(x.w - mW l a1 b)) (mZ l a1 b), classD (-(x.w - mW l a1 b)) (mZ l a1 b) true, decide ((b : Int) ≤ foA l a1) && decide (badD (-(x.w - mW l a1 b)) (mZ l a1 b) ≤ x.tol) && decide (-(x.w - mW l a1 b) ≤ mZ l a1 b)⟩
  else ⟨badD (x.w - mW l a1 b) (mY l a1 b), classD (x.w - mW l a1 b) (mY l a1 b) false, decide ((b : Int) ≤ foA l a1) && decide (badD (x.w - mW l a1 b) (mY l a1 b) ≤ x.tol)⟩
def judV (l : List Item) (x : Par) (a1 b : Nat) : Value := lineV (mW l a1 b) (mY l a1 b) (mZ l a1 b) (judD l x a1 b).bad (judD l x a1 b).cls (judD l x a1 b).fits
theorem judge_C (F : Mem) (p : Value) (l : List Item) (a : Int) (a1 b : Nat) (x : Par) (hp : RPara F p l) (hg : goodL l = true) (ha : a + 1 = a1) (ha1 : a1 ≤ l.length) (hb : b < l.length) (hx : x.good = true) : C0 Try.prog 38 [p, .int .i64 a, .int .i64 b, x.v] F (judV l x a1 b) := by
  have hM : ∀ F', F.le F' → C0 Try.prog 44 [p, .int .i64 a, .int .i64 b] F' (lineV (mW l a1 b) (mY l a1 b) (mZ l a1 b) 0 0 false) := fun F' hl => measure_C F' p l a a1 b (hp.le hl) hg ha ha1 hb
  obtain ⟨pb, po, lb, lo, lc, wb, wo, wc, yb, yo, yc, zb, zo, zc, bb, bo, bc, fb, fo, fc, rfl, ⟨h1, h2, h3, h4, h5, h6⟩, h7, h8⟩ := hp
  have hlen := good_len hg
  obtain ⟨_, _, _, _, q1⟩ := h8 a1 ha1
  have hfr : fromA l a1 b ≤ b := Nat.min_le_right _ _
  have s1 := sums_bd hg b (by omega)
  have s2 := sums_bd hg (fromA l a1 b) (by omega)
  have hok := good_ok hg hb
  simp only [Item.ok, decide_eq_true_eq] at hok
  have hw : -(1073741824 * 2000) ≤ mW l a1 b ∧ mW l a1 b ≤ 1073741824 * 2000 := by
    unfold mW
    split <;> omega
  have hgx := hx
  simp only [Par.good, decide_eq_true_eq] at hgx
  have q1' : look F ⟨fb, fo + (a + 1).toNat * 1, none⟩ = some (.int .i64 (foA l a1 : Int)) := by rw [ha]; exact q1
  unfold judV judD
  clear s1 s2 hok hfr h7 h8 hg h1 h2 h3 h4 h5
  generalize mW l a1 b = w at *
  generalize mY l a1 b = y at *
  generalize mZ l a1 b = z at *
  generalize foA l a1 = fo' at *
  obtain ⟨xw, tol, line, twice, odd⟩ := x
  simp only [Par.v] at hgx hx ⊢
  refine C.go hT Try.func38 Try.ntmps38 ?_
  (repeat (first | refine st ?_ | refine nl ?_ | refine sq ?_ | refine rg ?_ | refine bl ?_ | refine sk ?_ | refine bk ?_ | refine bx ?_ | refine al ?_ | refine so ?_ | refine mk ?_ | refine ex ?_ | refine lb ?_ | refine cT ?_ | refine cF ?_ | refine sg ?_ | refine sp ?_ | refine su ?_ | refine cl ?_ (h := by exact fun _ _ hl => hM _ hl)))
  refine dr 9 [7, 8, 9] [0, 1, 2, 3, 4, 5, 6, 7, 8] ?_
  (repeat (first | refine dt ?_ | refine dg ?_ | refine dp ?_ | refine du ?_ | refine dq ?_ | refine dqg ?_ | refine dqp ?_ | refine dqu ?_ | refine dso ?_ | refine dal ?_ | refine dmk ?_ | refine dbx ?_ | refine dv ?_ | refine dpe ?_ | refine dn ?_ | refine st ?_ | refine nl ?_ | refine sq ?_ | refine rg ?_ | refine bl ?_ | refine sk ?_ | refine bk ?_ | refine bx ?_ | refine al ?_ | refine so ?_ | refine mk ?_ | refine ex ?_ | refine lb ?_ | refine cT ?_ | refine cF ?_ | refine sg ?_ | refine sp ?_ | refine su ?_))
  refine cD (fun hs => ?_) (fun hs => ?_)
  · rw [if_pos hs]
    (repeat (first | refine st ?_ | refine nl ?_ | refine sq ?_ | refine rg ?_ | refine bl ?_ | refine sk ?_ | refine bk ?_ | refine bx ?_ | refine al ?_ | refine so ?_ | refine mk ?_ | refine ex ?_ | refine lb ?_ | refine cT ?_ | refine cF ?_ | refine sg ?_ | refine sp ?_ | refine su ?_))
    refine dr 6 [7, 8, 9] [0, 1, 2, 3, 4, 5] ?_
    (repeat (first | refine dt ?_ | refine dg ?_ | refine dp ?_ | refine du ?_ | refine dq ?_ | refine dqg ?_ | refine dqp ?_ | refine dqu ?_ | refine dso ?_ | refine dal ?_ | refine dmk ?_ | refine dbx ?_ | refine dv ?_ | refine dpe ?_ | refine dn ?_ | refine st ?_ | refine nl ?_ | refine sq ?_ | refine rg ?_ | refine bl ?_ | refine sk ?_ | refine bk ?_ | refine bx ?_ | refine al ?_ | refine so ?_ | refine mk ?_ | refine ex ?_ | refine lb ?_ | refine cT ?_ | refine cF ?_ | refine sg ?_ | refine sp ?_ | refine su ?_))
    (repeat' (first | refine st ?_ | refine nl ?_ | refine sq ?_ | refine rg ?_ | refine bl ?_ | refine sk ?_ | refine bk ?_ | refine bx ?_ | refine al ?_ | refine so ?_ | refine mk ?_ | refine ex ?_ | refine lb ?_ | refine cT ?_ | refine cF ?_ | refine sg ?_ | refine sp ?_ | refine su ?_ | refine gD (fun _ => ?_) (fun _ => ?_) | refine gN (fun _ => ?_) (fun _ => ?_) | refine cD (fun _ => ?_) (fun _ => ?_) | refine cN (fun _ => ?_) (fun _ => ?_) | refine cl ?_ (h := by exact fun _ _ _ => Bad_C _ _ _) | refine cl ?_ (h := by exact fun _ _ _ => Class_C _ _ _ _)))
    all_goals first | (exfalso; omega) | (refine rt ⟨?_, rfl⟩; simp [lineV, cellsL, *]; try rfl)
  · rw [if_neg hs]
    (repeat' (first | refine st ?_ | refine nl ?_ | refine sq ?_ | refine rg ?_ | refine bl ?_ | refine sk ?_ | refine bk ?_ | refine bx ?_ | refine al ?_ | refine so ?_ | refine mk ?_ | refine ex ?_ | refine lb ?_ | refine cT ?_ | refine cF ?_ | refine sg ?_ | refine sp ?_ | refine su ?_ | refine gD (fun _ => ?_) (fun _ => ?_) | refine gN (fun _ => ?_) (fun _ => ?_) | refine cD (fun _ => ?_) (fun _ => ?_) | refine cN (fun _ => ?_) (fun _ => ?_) | refine cl ?_ (h := by exact fun _ _ _ => Bad_C _ _ _) | refine cl ?_ (h := by exact fun _ _ _ => Class_C _ _ _ _)))
    all_goals first | (exfalso; omega) | (refine rt ⟨?_, rfl⟩; simp [lineV, cellsL, *]; try rfl)

end Go.Proofs.Ytbeblgjibfoanaa.Am
namespace Go.Proofs.Ytbeblgjibfoanaa.Am
set_option linter.unusedSimpArgs false
set_option linter.unusedVariables false
set_option maxRecDepth 100000
set_option maxHeartbeats 4000000
open Go Go.RowKit
theorem RItems.forms {F : Mem} {v : Value} {l : List Item} (h : RItems F v l) : (∃ b off c, v = .slice (some ⟨b, off, none⟩) l.length c) ∨ (v = .slice none 0 0 ∧ l = []) := by
  rcases h with ⟨b, off, c, h1, _⟩ | h
  · exact .inl ⟨b, off, c, h1⟩
  · exact .inr h
theorem Legal_C (F : Mem) (v : Value) (l : List Item) (i : Int) (hv : RItems F v l) : C0 Try.prog 23 [v, .int .i64 i] F (.bool (goodL l && legalB l i)) := by
  rcases hv.forms with ⟨b, off, c, rfl⟩ | ⟨rfl, rfl⟩
  · refine C.go hT Try.func23 Try.ntmps23 ?_
    (repeat (first | refine st ?_ | refine nl ?_ | refine sq ?_ | refine rg ?_ | refine bl ?_ | refine sk ?_ | refine bk ?_ | refine bx ?_ | refine al ?_ | refine so ?_ | refine mk ?_ | refine ex ?_ | refine lb ?_ | refine cT ?_ | refine cF ?_ | refine sg ?_ | refine sp ?_ | refine su ?_ | refine cl ?_ (h := by exact fun _ _ hl => IGood_C _ _ l (hv.le hl))))
    refine gB (fun h0 => ?_) (fun h0 => ?_)
    · (repeat (first | refine st ?_ | refine nl ?_ | refine sq ?_ | refine rg ?_ | refine bl ?_ | refine sk ?_ | refine bk ?_ | refine bx ?_ | refine al ?_ | refine so ?_ | refine mk ?_ | refine ex ?_ | refine lb ?_ | refine cT ?_ | refine cF ?_ | refine sg ?_ | refine sp ?_ | refine su ?_))
      refine JL.stepG rfl rfl rfl (Go1.box (t := 10) rfl rfl (by exact Nat.le_of_ble_eq_true rfl) rfl rfl rfl rfl rfl ?_)
      (repeat (first | refine st ?_ | refine nl ?_ | refine sq ?_ | refine rg ?_ | refine bl ?_ | refine sk ?_ | refine bk ?_ | refine bx ?_ | refine al ?_ | refine so ?_ | refine mk ?_ | refine ex ?_ | refine lb ?_ | refine cT ?_ | refine cF ?_ | refine sg ?_ | refine sp ?_ | refine su ?_))
      refine clg ?_ (h := by
        intro ι hV hl
        have hk := hV.look (t := 10) rfl (o := 0) (v := .slice (some ⟨b, off, none⟩) l.length c) rfl
        exact legal_C _ (.pointer (some ⟨ι 10, 0, none⟩)) l i ⟨_, 0, _, rfl, hk, hv.le hl⟩)
      (repeat (first | refine st ?_ | refine nl ?_ | refine sq ?_ | refine rg ?_ | refine bl ?_ | refine sk ?_ | refine bk ?_ | refine bx ?_ | refine al ?_ | refine so ?_ | refine mk ?_ | refine ex ?_ | refine lb ?_ | refine cT ?_ | refine cF ?_ | refine sg ?_ | refine sp ?_ | refine su ?_))
      refine rt ⟨?_, rfl⟩
      simp [h0]
    · (repeat (first | refine st ?_ | refine nl ?_ | refine sq ?_ | refine rg ?_ | refine bl ?_ | refine sk ?_ | refine bk ?_ | refine bx ?_ | refine al ?_ | refine so ?_ | refine mk ?_ | refine ex ?_ | refine lb ?_ | refine cT ?_ | refine cF ?_ | refine sg ?_ | refine sp ?_ | refine su ?_))
      refine rt ⟨?_, rfl⟩
      simp [h0]
  · refine C.go hT Try.func23 Try.ntmps23 ?_
    (repeat (first | refine st ?_ | refine nl ?_ | refine sq ?_ | refine rg ?_ | refine bl ?_ | refine sk ?_ | refine bk ?_ | refine bx ?_ | refine al ?_ | refine so ?_ | refine mk ?_ | refine ex ?_ | refine lb ?_ | refine cT ?_ | refine cF ?_ | refine sg ?_ | refine sp ?_ | refine su ?_ | refine cl ?_ (h := by exact fun _ _ hl => IGood_C _ _ .nil (hv.le hl))))
    exact rt ⟨rfl, rfl⟩

end Go.Proofs.Ytbeblgjibfoanaa.Am
