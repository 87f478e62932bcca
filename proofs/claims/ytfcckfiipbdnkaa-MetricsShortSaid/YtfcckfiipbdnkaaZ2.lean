/- Rules for walking Go functions, and contracts proved by them (A21, A22, T0, B1, B2, N1, B3, O1, O3, B4, B6, B5, N2, N3, K1, V1). -/
import Derived.Test.YtfcckfiipbdnkaaZ1
import Derived.Test.YtfcckfiipbdnkaaChecked
import Derived.Scope
import Derived.Laws.Entries
import Derived.Laws.BitsLemmas
import Derived.Laws.Small
import Derived.ChangeArms
import Derived.DataReads
import Derived.WideShapes
import Derived.SizedLaws
namespace Go.Proofs.Ytfcckfiipbdnkaa.Am
set_option linter.unusedSimpArgs false
set_option linter.unusedVariables false
open Go Go.RowKit
section
variable {X : Cx} {F F0 : Mem} {L : Slots} {K K0 : Own} {s : List SI} {ops : Array Oper} {o : Oper} {l : List Oper}
/-- a guard whose test is open -/
theorem gD {j d : Nat} {want : Bool} {p : Prop} [Decidable p] (ht : p → JL X ops (o :: l) s F ((d, .bool true) :: L) K) (hf : ¬ p → JL X ops (o :: l) s F ((d, .bool false) :: L) K)
    (hg : o.guard = some (j, want) := by rfl) (hj : (ops[j]?).bind (·.dst) = some d := by rfl) (hb : L.lookup d = some (.bool (decide p)) := by rfl) : JL X ops (o :: l) s F L K := JL.caseD hb ht hf
theorem gN {j d : Nat} {want : Bool} {p : Prop} [Decidable p] (ht : ¬ p → JL X ops (o :: l) s F ((d, .bool true) :: L) K) (hf : p → JL X ops (o :: l) s F ((d, .bool false) :: L) K)
    (hg : o.guard = some (j, want) := by rfl) (hj : (ops[j]?).bind (·.dst) = some d := by rfl) (hb : L.lookup d = some (.bool (!decide p)) := by rfl) : JL X ops (o :: l) s F L K := JL.caseN hb ht hf
theorem gB {j d : Nat} {want b : Bool} (ht : b = true → JL X ops (o :: l) s F ((d, .bool true) :: L) K) (hf : b = false → JL X ops (o :: l) s F ((d, .bool false) :: L) K)
    (hg : o.guard = some (j, want) := by rfl) (hj : (ops[j]?).bind (·.dst) = some d := by rfl) (hb : L.lookup d = some (.bool b) := by rfl) : JL X ops (o :: l) s F L K := JL.case hb ht hf
theorem cD {c : Operand} {x y : Code} {p : Prop} [Decidable p] (ht : p → J X (.code x :: s) F L K) (hf : ¬ p → J X (.code y :: s) F L K) (hc : evO L c = some (.bool (decide p)) := by rfl) : J X (.code (.cond c x y) :: s) F L K := J.condD hc ht hf
theorem cN {c : Operand} {x y : Code} {p : Prop} [Decidable p] (ht : ¬ p → J X (.code x :: s) F L K) (hf : p → J X (.code y :: s) F L K) (hc : evO L c = some (.bool (!decide p)) := by rfl) : J X (.code (.cond c x y) :: s) F L K := J.condN hc ht hf
theorem cB {c : Operand} {x y : Code} {b : Bool} (ht : b = true → J X (.code x :: s) F L K) (hf : b = false → J X (.code y :: s) F L K) (hc : evO L c = some (.bool b) := by rfl) : J X (.code (.cond c x y) :: s) F L K := J.cond hc ht hf
abbrev C0 (P : Program) (f : FuncId) (args : List Value) (F : Mem) (v : Value) : Prop := C P f args F fun u Y => u = v ∧ Y = []
theorem cl {f d : Nat} {args : Array Operand} {ts : Array TypeId} {vs : List Value} {v : Value} (hk : JL X ops l s F ((d, v) :: L) K)
    (hg : o.guard = none := by rfl) (ho : o.op = .call ⟨.value (.func f), args, ts⟩ := by rfl) (hd : o.dst = some d := by rfl) (hN : d < X.N := by exact Nat.le_of_ble_eq_true rfl) (hargs : mapE (evO L) args.toList = some vs := by rfl) (hfn : fnOk X.P f = true := by kernel_rfl) (h : ∀ ι, Val ι K F → F.le (push ι K F) → C0 X.P f (vs.map (rV ι)) (push ι K F) v) : JL X ops (o :: l) s F L K :=
  JL.callC hg ho hd hN hargs hfn h (by rintro _ _ ⟨rfl, rfl⟩ _ _ _; exact hk)
theorem clg {f d j e : Nat} {want : Bool} {args : Array Operand} {ts : Array TypeId} {vs : List Value} {v : Value} (hk : JL X ops l s F ((d, v) :: L) K)
    (hg : o.guard = some (j, want) := by rfl) (hj : (ops[j]?).bind (·.dst) = some e := by rfl) (hb : L.lookup e = some (.bool want) := by rfl) (ho : o.op = .call ⟨.value (.func f), args, ts⟩ := by rfl) (hd : o.dst = some d := by rfl) (hN : d < X.N := by exact Nat.le_of_ble_eq_true rfl) (hargs : mapE (evO L) args.toList = some vs := by rfl) (hfn : fnOk X.P f = true := by kernel_rfl) (h : ∀ ι, Val ι K F → F.le (push ι K F) → C0 X.P f (vs.map (rV ι)) (push ι K F) v) : JL X ops (o :: l) s F L K :=
  JL.callCG hg hj hb ho hd hN hargs hfn h (by rintro _ _ ⟨rfl, rfl⟩ _ _ _; exact hk)
variable {b : Nat} {D : List Nat} {p : List (Nat × Bool)} {listed : Array Bool}
/-- what an open guard says, in a region that draws -/
theorem JD.case {d : Nat} {q : Bool} (hb : L.lookup d = some (.bool q)) (ht : q = true → JD X l b F0 K0 D p listed s F ((d, .bool true) :: L) K) (hf : q = false → JD X l b F0 K0 D p listed s F ((d, .bool false) :: L) K) : JD X l b F0 K0 D p listed s F L K := by
  intro hp hok ι0 ι a w hF hS hag hS0
  have aux : ∀ r, q = r → Fr X.N ι ((d, .bool r) :: L) a := fun r e => ⟨hF.size, hF.defers, fun s v hv => by
    rw [List.lookup_cons] at hv
    split at hv
    · rename_i e2
      have e1 : s = d := by simpa using e2
      subst e1
      simp only [Option.some.injEq] at hv
      subst hv
      rw [← e]; exact hF.slot s _ hb
    · exact hF.slot s v hv⟩
  cases hq : q with
  | true => exact ht hq hp hok ι0 ι a w (aux true hq) hS hag hS0
  | false => exact hf hq hp hok ι0 ι a w (aux false hq) hS hag hS0
theorem dgD {i j d : Nat} {want k : Bool} {o : Oper} {q : Prop} [Decidable q] (ht : q → JD X l b F0 K0 D ((i, k) :: p) listed s F ((d, .bool true) :: L) K) (hf : ¬ q → JD X l b F0 K0 D ((i, k) :: p) listed s F ((d, .bool false) :: L) K)
    (ho : l[i]? = some o := by rfl) (hg : o.guard = some (j, want) := by rfl) (hj : (l[j]?).bind (·.dst) = some d := by rfl) (hb : L.lookup d = some (.bool (decide q)) := by rfl) : JD X l b F0 K0 D ((i, k) :: p) listed s F L K :=
  JD.case hb (fun h => ht (of_decide_eq_true h)) (fun h => hf (of_decide_eq_false h))
theorem dgN {i j d : Nat} {want k : Bool} {o : Oper} {q : Prop} [Decidable q] (ht : ¬ q → JD X l b F0 K0 D ((i, k) :: p) listed s F ((d, .bool true) :: L) K) (hf : q → JD X l b F0 K0 D ((i, k) :: p) listed s F ((d, .bool false) :: L) K)
    (ho : l[i]? = some o := by rfl) (hg : o.guard = some (j, want) := by rfl) (hj : (l[j]?).bind (·.dst) = some d := by rfl) (hb : L.lookup d = some (.bool (!decide q)) := by rfl) : JD X l b F0 K0 D ((i, k) :: p) listed s F L K :=
  JD.case hb (fun h => ht (by simpa using h)) (fun h => hf (by simpa using h))
theorem dgB {i j d : Nat} {want k q : Bool} {o : Oper} (ht : q = true → JD X l b F0 K0 D ((i, k) :: p) listed s F ((d, .bool true) :: L) K) (hf : q = false → JD X l b F0 K0 D ((i, k) :: p) listed s F ((d, .bool false) :: L) K)
    (ho : l[i]? = some o := by rfl) (hg : o.guard = some (j, want) := by rfl) (hj : (l[j]?).bind (·.dst) = some d := by rfl) (hb : L.lookup d = some (.bool q) := by rfl) : JD X l b F0 K0 D ((i, k) :: p) listed s F L K :=
  JD.case hb ht hf
/-- nothing that the others read has turned: rows were added -/
theorem KSub.refl : ∀ {K : Own}, (K.map Prod.fst).Nodup → KSub K K := by
  have aux : ∀ (K0 K1 : Own), ((K1 ++ K0).map Prod.fst).Nodup → KSub K0 (K1 ++ K0) := by
    intro K0
    induction K0 with
    | nil => intro _ _; trivial
    | cons x K0 ih =>
      intro K1 hn
      refine ⟨mem_lookup hn (by simp), ?_, ?_⟩
      · simp only [List.map_append, List.map_cons] at hn
        have := (List.nodup_append.1 hn).2.1
        simp only [List.nodup_cons] at this
        rw [List.all_eq_true]
        intro y hy
        simp only [bne_iff_ne, ne_eq]
        intro e
        exact this.1 (List.mem_map.2 ⟨y, hy, e⟩)
      · have := ih (K1 ++ [x]) (by simpa using hn)
        simpa using this
  intro K hn
  simpa using aux K [] (by simpa using hn)
theorem Kept.same {F0 : Mem} {K0 : Own} (hn : (K0.map Prod.fst).Nodup := by first | exact List.nodup_nil | (simp; done)) : Kept b F0 K0 listed F0 K0 := .inr ⟨KSub.refl hn, [], rfl⟩
theorem Kept.all (h : listed.getD b false = true := by rfl) : Kept b F0 K0 listed F K := .inl h
theorem dcl {i f d : Nat} {o : Oper} {args : Array Operand} {ts : Array TypeId} {vs : List Value} {v : Value} (hk : JD X l b F0 K0 D p (listed.setIfInBounds i true) s F ((d, v) :: L) K)
    (hkp : Kept b F0 K0 (listed.setIfInBounds i true) F K := by first | exact Kept.same | exact Kept.all) (ho : l[i]? = some o := by rfl) (hg : o.guard = none := by rfl) (hop : o.op = .call ⟨.value (.func f), args, ts⟩ := by rfl) (hd : o.dst = some d := by rfl) (hN : d < X.N := by exact Nat.le_of_ble_eq_true rfl) (hargs : mapE (evO L) args.toList = some vs := by rfl) (hfn : fnOk X.P f = true := by kernel_rfl) (hi9 : i < 5000 := by exact Nat.le_of_ble_eq_true rfl) (h : ∀ ι, Val ι K F → F.le (push ι K F) → C0 X.P f (vs.map (rV ι)) (push ι K F) v) : JD X l b F0 K0 D ((i, false) :: p) listed s F L K :=
  JD.callC_ hi9 ho (fun ι a _ => by simp [Region.wanted, hg]) hop hd hN hargs hfn hkp h (by rintro _ _ ⟨rfl, rfl⟩ _ _ _; exact hk)
theorem dclg {i f d j e : Nat} {want : Bool} {o : Oper} {args : Array Operand} {ts : Array TypeId} {vs : List Value} {v : Value} (hk : JD X l b F0 K0 D p (listed.setIfInBounds i true) s F ((d, v) :: L) K)
    (hkp : Kept b F0 K0 (listed.setIfInBounds i true) F K := by first | exact Kept.same | exact Kept.all) (ho : l[i]? = some o := by rfl) (hg : o.guard = some (j, want) := by rfl) (hj : (l[j]?).bind (·.dst) = some e := by rfl) (hb : L.lookup e = some (.bool want) := by rfl) (hop : o.op = .call ⟨.value (.func f), args, ts⟩ := by rfl) (hd : o.dst = some d := by rfl) (hN : d < X.N := by exact Nat.le_of_ble_eq_true rfl) (hargs : mapE (evO L) args.toList = some vs := by rfl) (hfn : fnOk X.P f = true := by kernel_rfl) (hi9 : i < 5000 := by exact Nat.le_of_ble_eq_true rfl) (h : ∀ ι, Val ι K F → F.le (push ι K F) → C0 X.P f (vs.map (rV ι)) (push ι K F) v) : JD X l b F0 K0 D ((i, false) :: p) listed s F L K :=
  JD.callC_ hi9 ho (fun ι a hF => by rw [JL.wanted (ops := l.toArray) hF hg (by simpa using hj) hb]; simp) hop hd hN hargs hfn hkp h (by rintro _ _ ⟨rfl, rfl⟩ _ _ _; exact hk)
/-- a guarded operation that would do something, passed by -/
theorem dpe {i d j e : Nat} {want q : Bool} {o : Oper} (h : JD X l b F0 K0 D p (listed.setIfInBounds i true) s F ((d, undef) :: L) K) (hkp : Kept b F0 K0 (listed.setIfInBounds i true) F K := by first | exact Kept.same | exact Kept.all) (ho : l[i]? = some o := by rfl) (hg : o.guard = some (j, want) := by rfl) (hj : (l[j]?).bind (·.dst) = some e := by rfl) (hb : L.lookup e = some (.bool q) := by rfl) (hne : (q == want) = false := by rfl) (hd : o.dst = some d := by rfl) (hN : d < X.N := by exact Nat.le_of_ble_eq_true rfl) (hi9 : i < 5000 := by exact Nat.le_of_ble_eq_true rfl) : JD X l b F0 K0 D ((i, false) :: p) listed s F L K :=
  JD.passE hi9 ho hg hj hb hne hd hN hkp h
/-- stores, boxes and the like, in a region that draws -/
theorem dso {Θ : Tab} {i : Nat} {o : Oper} {ty : TypeId} {x y : Operand} {t off : Nat} {v : Value} {r : Row} {ti : Ty} (hk : JD X l b F0 K0 D p (listed.setIfInBounds i true) s F L (setK t { r with cs := putL r.cs off (cellsL v), flat := r.flat && (cellsL v).all plain1 } K))
    (ho' : l[i]? = some o := by rfl) (hg : o.guard = none := by rfl) (ho : o.op = .store ty x y := by rfl) (hd : o.dst = none := by rfl) (hθ : tabOk X.P Θ = true := by exact hT) (hi : Θ.lookup ty = some ti := by rfl)
    (hx : evO L x = some (.pointer (some ⟨t, off, some 0⟩)) := by rfl) (hy : evO L y = some v := by rfl) (hv : okV v = true := by rfl) (hr : K.lookup t = some r := by rfl) (hsz : (cellsL v).length = ti.size := by rfl) (hle : off + (cellsL v).length ≤ r.cs.length := by first | exact Nat.le_of_ble_eq_true rfl | (simp; omega))
    (hkp : Kept b F0 K0 (listed.setIfInBounds i true) F (setK t { r with cs := putL r.cs off (cellsL v), flat := r.flat && (cellsL v).all plain1 } K) := by first | exact Kept.all | exact Or.inr ⟨by first | exact trivial | exact ⟨rfl, rfl, trivial⟩ | exact ⟨rfl, rfl, rfl, rfl, trivial⟩ | exact ⟨rfl, rfl, rfl, rfl, rfl, rfl, trivial⟩ | exact ⟨rfl, rfl, rfl, rfl, rfl, rfl, rfl, rfl, trivial⟩, [], rfl⟩) (hi9 : i < 5000 := by exact Nat.le_of_ble_eq_true rfl) : JD X l b F0 K0 D ((i, false) :: p) listed s F L K :=
  JD.op hi9 ho' hg (Go1.store hθ ho hd hi hx hy hv hr hsz hle ⟨hkp, hk⟩)
theorem dal {Θ : Tab} {i : Nat} {o : Oper} {e : TypeId} {d : Nat} {ti : Ty} (hk : JD X l b F0 K0 D p (listed.setIfInBounds i true) s F ((d, .pointer (some ⟨d, 0, some 0⟩)) :: L) ((d, { elem := e, cs := ti.zero, room := ti.zero.length, flat := false }) :: K))
    (ho' : l[i]? = some o := by rfl) (hg : o.guard = none := by rfl) (ho : o.op = .alloc e := by rfl) (hd : o.dst = some d := by rfl) (hN : d < X.N := by exact Nat.le_of_ble_eq_true rfl) (hθ : tabOk X.P Θ = true := by exact hT) (hi : Θ.lookup e = some ti := by rfl) (h1 : ti.zero.all (·.oneCell') = true := by rfl)
    (hL : ntL d L = true := by rfl) (hK : ntK d K = true := by rfl) (hD : D.contains d = false := by rfl)
    (hkp : Kept b F0 K0 (listed.setIfInBounds i true) F ((d, { elem := e, cs := ti.zero, room := ti.zero.length, flat := false }) :: K) := by first | exact Kept.all | exact Or.inr ⟨by first | exact trivial | exact ⟨rfl, rfl, trivial⟩ | exact ⟨rfl, rfl, rfl, rfl, trivial⟩ | exact ⟨rfl, rfl, rfl, rfl, rfl, rfl, trivial⟩ | exact ⟨rfl, rfl, rfl, rfl, rfl, rfl, rfl, rfl, trivial⟩, [], rfl⟩) (hi9 : i < 5000 := by exact Nat.le_of_ble_eq_true rfl) : JD X l b F0 K0 D ((i, false) :: p) listed s F L K :=
  JD.op hi9 ho' hg (Go1.alloc hθ ho hd hN hi h1 hL hK hD ⟨hkp, hk⟩)
/-- an operation that reads what the region itself has made -/
theorem dv {i d : Nat} {o : Oper} {v : Value} (h : JD X l b F0 K0 D p (listed.setIfInBounds i true) s F ((d, v) :: L) K) (ho : l[i]? = some o := by rfl) (hg : o.guard = none := by rfl) (hd : o.dst = some d := by rfl) (hN : d < X.N := by exact Nat.le_of_ble_eq_true rfl)
    (hv : SD X.P F K L o.op v := by first
      | exact SD.load hT rfl rfl rfl (by first | rfl | assumption)
      | exact SD.loadN hT rfl rfl rfl (by first | rfl | assumption)
      | exact SD.of hT rfl)
    (hkp : Kept b F0 K0 (listed.setIfInBounds i true) F K := by first | exact Kept.all | exact Or.inr ⟨by first | exact trivial | exact ⟨rfl, rfl, trivial⟩ | exact ⟨rfl, rfl, rfl, rfl, trivial⟩ | exact ⟨rfl, rfl, rfl, rfl, rfl, rfl, trivial⟩ | exact ⟨rfl, rfl, rfl, rfl, rfl, rfl, rfl, rfl, trivial⟩, [], rfl⟩) (hi9 : i < 5000 := by exact Nat.le_of_ble_eq_true rfl) : JD X l b F0 K0 D ((i, false) :: p) listed s F L K :=
  JD.op hi9 ho hg (Go1.val hd hN hv ⟨hkp, h⟩)
theorem mk {Θ : Tab} {ty el : TypeId} {x c : Operand} {d : Nat} {ti tj : Ty} {kl kc : IntKind} {qn qm : Int} (hk : JL X ops l s F ((d, .slice (some ⟨d, 0, some 0⟩) qn.toNat qm.toNat) :: L) ((d, { elem := el, cs := zer tj qn.toNat, room := qm.toNat * tj.size, flat := true }) :: K))
    (hg : o.guard = none := by rfl) (ho : o.op = .makeSlice ty x c := by rfl) (hd : o.dst = some d := by rfl) (hN : d < X.N := by exact Nat.le_of_ble_eq_true rfl) (hθ : tabOk X.P Θ = true := by exact hT) (hi : Θ.lookup ty = some ti := by rfl) (hki : ti.k = .slice el := by rfl) (hj : Θ.lookup el = some tj := by rfl)
    (hl : evO L x = some (.int kl qn) := by rfl) (hc : evO L c = some (.int kc qm) := by rfl) (h0 : 0 ≤ qn := by omega) (hnm : qn ≤ qm := by omega) (hb : qm.toNat * tj.bytes ≤ 281474976710656 := by (first | omega | (simp; omega))) (hm2 : qm ≤ 9223372036854775807 := by omega) (hz0 : tj.zero.length = tj.size := by rfl) (hz1 : 0 < tj.size := by exact Nat.le_of_ble_eq_true rfl)
    (hL : ntL d L = true := by rfl) (hK : ntK d K = true := by rfl) (hD : X.D.contains d = false := by rfl) : JL X ops (o :: l) s F L K :=
  JL.step hg (Go1.make hθ ho hd hN hi hki hj hl hc (by omega) (by omega) (by omega) hb (by omega) hz0 hz1 hL hK hD hk)
theorem dmk {Θ : Tab} {i : Nat} {o : Oper} {ty el : TypeId} {x c : Operand} {d : Nat} {ti tj : Ty} {kl kc : IntKind} {qn qm : Int} (hk : JD X l b F0 K0 D p (listed.setIfInBounds i true) s F ((d, .slice (some ⟨d, 0, some 0⟩) qn.toNat qm.toNat) :: L) ((d, { elem := el, cs := zer tj qn.toNat, room := qm.toNat * tj.size, flat := true }) :: K))
    (ho' : l[i]? = some o := by rfl) (hg : o.guard = none := by rfl) (ho : o.op = .makeSlice ty x c := by rfl) (hd : o.dst = some d := by rfl) (hN : d < X.N := by exact Nat.le_of_ble_eq_true rfl) (hθ : tabOk X.P Θ = true := by exact hT) (hi : Θ.lookup ty = some ti := by rfl) (hki : ti.k = .slice el := by rfl) (hj : Θ.lookup el = some tj := by rfl)
    (hl : evO L x = some (.int kl qn) := by rfl) (hc : evO L c = some (.int kc qm) := by rfl) (h0 : 0 ≤ qn := by omega) (hnm : qn ≤ qm := by omega) (hb : qm.toNat * tj.bytes ≤ 281474976710656 := by (first | omega | (simp; omega))) (hm2 : qm ≤ 9223372036854775807 := by omega) (hz0 : tj.zero.length = tj.size := by rfl) (hz1 : 0 < tj.size := by exact Nat.le_of_ble_eq_true rfl)
    (hL : ntL d L = true := by rfl) (hK : ntK d K = true := by rfl) (hD : D.contains d = false := by rfl)
    (hkp : Kept b F0 K0 (listed.setIfInBounds i true) F ((d, { elem := el, cs := zer tj qn.toNat, room := qm.toNat * tj.size, flat := true }) :: K) := by first | exact Kept.all | exact Or.inr ⟨by first | exact trivial | exact ⟨rfl, rfl, trivial⟩ | exact ⟨rfl, rfl, rfl, rfl, trivial⟩ | exact ⟨rfl, rfl, rfl, rfl, rfl, rfl, trivial⟩ | exact ⟨rfl, rfl, rfl, rfl, rfl, rfl, rfl, rfl, trivial⟩, [], rfl⟩) (hi9 : i < 5000 := by exact Nat.le_of_ble_eq_true rfl) : JD X l b F0 K0 D ((i, false) :: p) listed s F L K :=
  JD.op hi9 ho' hg (Go1.make hθ ho hd hN hi hki hj hl hc (by omega) (by omega) (by omega) hb (by omega) hz0 hz1 hL hK hD ⟨hkp, hk⟩)
/-- two makes that may come up, one or the other first -/
theorem dmk2 {Θ : Tab} {i j : Nat} {o o2 : Oper} {ty el ty2 el2 : TypeId} {x c x2 c2 : Operand} {d d2 : Nat} {ti tj ti2 tj2 : Ty} {kl kc kl2 kc2 : IntKind} {qn qm qn2 qm2 : Int}
    (hk : JD X l b F0 K0 D ((j, false) :: p) (listed.setIfInBounds i true) s F ((d, .slice (some ⟨d, 0, some 0⟩) qn.toNat qm.toNat) :: L) ((d, { elem := el, cs := zer tj qn.toNat, room := qm.toNat * tj.size, flat := true }) :: K))
    (hk2 : JD X l b F0 K0 D ((i, false) :: p) (listed.setIfInBounds j true) s F ((d2, .slice (some ⟨d2, 0, some 0⟩) qn2.toNat qm2.toNat) :: L) ((d2, { elem := el2, cs := zer tj2 qn2.toNat, room := qm2.toNat * tj2.size, flat := true }) :: K))
    (hij : i < 100 ∧ j < 100 := by exact ⟨Nat.le_of_ble_eq_true rfl, Nat.le_of_ble_eq_true rfl⟩) (hθ : tabOk X.P Θ = true := by exact hT)
    (ho' : l[i]? = some o := by rfl) (hg : o.guard = none := by rfl) (ho : o.op = .makeSlice ty x c := by rfl) (hd : o.dst = some d := by rfl) (hN : d < X.N := by exact Nat.le_of_ble_eq_true rfl) (hi : Θ.lookup ty = some ti := by rfl) (hki : ti.k = .slice el := by rfl) (hj : Θ.lookup el = some tj := by rfl)
    (hl : evO L x = some (.int kl qn) := by rfl) (hc : evO L c = some (.int kc qm) := by rfl) (h0 : 0 ≤ qn := by omega) (hnm : qn ≤ qm := by omega) (hb : qm.toNat * tj.bytes ≤ 281474976710656 := by (first | omega | (simp; omega))) (hm2 : qm ≤ 9223372036854775807 := by omega) (hz0 : tj.zero.length = tj.size := by rfl) (hz1 : 0 < tj.size := by exact Nat.le_of_ble_eq_true rfl)
    (hL : ntL d L = true := by rfl) (hK : ntK d K = true := by rfl) (hD : D.contains d = false := by rfl)
    (hkp : Kept b F0 K0 (listed.setIfInBounds i true) F ((d, { elem := el, cs := zer tj qn.toNat, room := qm.toNat * tj.size, flat := true }) :: K) := by first | exact Kept.all | exact Or.inr ⟨by first | exact trivial | exact ⟨rfl, rfl, trivial⟩ | exact ⟨rfl, rfl, rfl, rfl, trivial⟩, [], rfl⟩)
    (ho2' : l[j]? = some o2 := by rfl) (hg2 : o2.guard = none := by rfl) (ho2 : o2.op = .makeSlice ty2 x2 c2 := by rfl) (hd2 : o2.dst = some d2 := by rfl) (hN2 : d2 < X.N := by exact Nat.le_of_ble_eq_true rfl) (hi2 : Θ.lookup ty2 = some ti2 := by rfl) (hki2 : ti2.k = .slice el2 := by rfl) (hj2 : Θ.lookup el2 = some tj2 := by rfl)
    (hl2 : evO L x2 = some (.int kl2 qn2) := by rfl) (hc2 : evO L c2 = some (.int kc2 qm2) := by rfl) (h02 : 0 ≤ qn2 := by omega) (hnm2 : qn2 ≤ qm2 := by omega) (hb2 : qm2.toNat * tj2.bytes ≤ 281474976710656 := by (first | omega | (simp; omega))) (hm22 : qm2 ≤ 9223372036854775807 := by omega) (hz02 : tj2.zero.length = tj2.size := by rfl) (hz12 : 0 < tj2.size := by exact Nat.le_of_ble_eq_true rfl)
    (hL2 : ntL d2 L = true := by rfl) (hK2 : ntK d2 K = true := by rfl) (hD2 : D.contains d2 = false := by rfl)
    (hkp2 : Kept b F0 K0 (listed.setIfInBounds j true) F ((d2, { elem := el2, cs := zer tj2 qn2.toNat, room := qm2.toNat * tj2.size, flat := true }) :: K) := by first | exact Kept.all | exact Or.inr ⟨by first | exact trivial | exact ⟨rfl, rfl, trivial⟩ | exact ⟨rfl, rfl, rfl, rfl, trivial⟩, [], rfl⟩) : JD X l b F0 K0 D ((10000 + 100 * i + j, false) :: p) listed s F L K :=
  JD.two hij.1 hij.2 ho' ho2' hg hg2 (Go1.make hθ ho hd hN hi hki hj hl hc (by omega) (by omega) (by omega) hb (by omega) hz0 hz1 hL hK hD ⟨hkp, hk⟩) (Go1.make hθ ho2 hd2 hN2 hi2 hki2 hj2 hl2 hc2 (by omega) (by omega) (by omega) hb2 (by omega) hz02 hz12 hL2 hK2 hD2 ⟨hkp2, hk2⟩)
/-- a box, in a region that draws -/
theorem dbx {i : Nat} {o : Oper} {e : TypeId} {x : Operand} {d : Nat} {v : Value} (hk : JD X l b F0 K0 D p (listed.setIfInBounds i true) s F ((d, .pointer (some ⟨d, 0, some 0⟩)) :: L) ((d, { elem := e, cs := cellsL v, room := (cellsL v).length, flat := false }) :: K))
    (ho' : l[i]? = some o := by rfl) (hg : o.guard = none := by rfl) (ho : o.op = .box e x := by rfl) (hd : o.dst = some d := by rfl) (hN : d < X.N := by exact Nat.le_of_ble_eq_true rfl) (hx : evO L x = some v := by rfl) (hv : okV v = true := by rfl)
    (hL : ntL d L = true := by rfl) (hK : ntK d K = true := by rfl) (hD : D.contains d = false := by rfl)
    (hkp : Kept b F0 K0 (listed.setIfInBounds i true) F ((d, { elem := e, cs := cellsL v, room := (cellsL v).length, flat := false }) :: K) := by first | exact Kept.all | exact Or.inr ⟨by first | exact trivial | exact ⟨rfl, rfl, trivial⟩ | exact ⟨rfl, rfl, rfl, rfl, trivial⟩, [], rfl⟩) (hi9 : i < 5000 := by exact Nat.le_of_ble_eq_true rfl) : JD X l b F0 K0 D ((i, false) :: p) listed s F L K :=
  JD.op hi9 ho' hg (Go1.box ho hd hN hx hv hL hK hD ⟨hkp, hk⟩)
end
/-! What is read. -/
/-- a slice of numbers, told by what stands in it -/
def RInts (F : Mem) (v : Value) (xs : List Int) : Prop :=
  (∃ b off c, v = .slice (some ⟨b, off, none⟩) xs.length c ∧ xs.length ≤ 9223372036854775807 ∧ ∀ i x, xs[i]? = some x → look F ⟨b, off + i, none⟩ = some (.int .i64 x)) ∨ (v = .slice none 0 0 ∧ xs = [])
theorem RInts.le {F F' : Mem} {v : Value} {xs : List Int} (h : RInts F v xs) (hl : F.le F') : RInts F' v xs := by
  rcases h with ⟨b, off, c, h1, h2, h3⟩ | h
  · exact .inl ⟨b, off, c, h1, h2, fun i x hx => hl _ _ (h3 i x hx)⟩
  · exact .inr h
end Go.Proofs.Ytfcckfiipbdnkaa.Am
namespace Go.Proofs.Ytfcckfiipbdnkaa.Am
set_option linter.unusedSimpArgs false
set_option linter.unusedVariables false
open Go Go.RowKit
/-! Rows of numbers, told by a function; several makes in any order. -/
def gI (T : Nat → Int) (n : Nat) : List Value := (List.range n).map fun k => .int .i64 (T k)
def setI (T : Nat → Int) (i : Nat) (v : Int) : Nat → Int := fun k => if k = i then v else T k
theorem gI_length (T : Nat → Int) (n : Nat) : (gI T n).length = n := by simp [gI]
theorem gI_get {T : Nat → Int} {n i : Nat} (h : i < n) : (gI T n)[i]? = some (.int .i64 (T i)) := by simp [gI, h]
theorem gI_plain (T : Nat → Int) (n : Nat) : ∀ v ∈ gI T n, plain1 v = true := by
  intro v hv
  obtain ⟨k, _, rfl⟩ := List.mem_map.1 hv
  rfl
theorem gI_put (T : Nat → Int) (n i : Nat) (v : Int) : putL (gI T n) i [.int .i64 v] = gI (setI T i v) n := by
  simp only [putL]
  apply List.ext_getElem?
  intro k
  by_cases hk : k < n
  · rw [gI_get hk]
    by_cases h : k = i
    · subst h
      rw [List.getElem?_set]
      simp [gI_length, hk, setI]
    · rw [List.getElem?_set]
      simp only [Ne.symm h, if_false, gI_get hk, setI, h]
  · rw [List.getElem?_eq_none (by simp [gI_length]; omega), List.getElem?_eq_none (by simp [gI_length]; omega)]
theorem zer_gI {ti : Ty} (h : ti.zero = [.int .i64 0]) (n : Nat) : zer ti n = gI (fun _ => 0) n := by
  rw [zer_one h]
  simp [gI, List.map_const']
section
variable {P : Program} {N : Nat} {D : List Nat} {Θ : Tab} {F : Mem} {K : Own} {L : Slots} {T : Pst} (hθ : tabOk P Θ = true)
include hθ
theorem SD.loadG {t : TypeId} {x : Operand} {ti : Ty} {b off n : Nat} {G : Nat → Int} {r : Row} (ht : Θ.lookup t = some ti) (hag : aggB ti.k = false) (hx : evO L x = some (.pointer (some ⟨b, off, some 0⟩))) (hr : K.lookup b = some r) (hcs : r.cs = gI G n) (hlt : off < n) : SD P F K L (.load t x) (.int .i64 (G off)) := by
  refine SD.load hθ ht hag hx ?_
  simp only [rdA, hr, Option.bind_some, cellAt, hcs, gI_get hlt]
theorem Go1.storeG {o : Oper} {ty : TypeId} {x y : Operand} {t off n : Nat} {z : Int} {G : Nat → Int} {r : Row} {ti : Ty} (ho : o.op = .store ty x y) (hd : o.dst = none) (hi : Θ.lookup ty = some ti)
    (hx : evO L x = some (.pointer (some ⟨t, off, some 0⟩))) (hy : evO L y = some (.int .i64 z)) (hr : K.lookup t = some r) (hcs : r.cs = gI G n) (hsz : ti.size = 1) (hle : off < n)
    (h : T F L (setK t { r with cs := gI (setI G off z) n } K)) : Go1 P N D F L K o T := by
  refine Go1.store hθ ho hd hi hx hy rfl hr (by rw [hsz]; rfl) (by rw [hcs, gI_length]; exact hle) ?_
  have e : putL r.cs off (cellsL (.int .i64 z)) = gI (setI G off z) n := by rw [hcs]; exact gI_put G n off z
  rw [e]
  have e2 : (r.flat && (cellsL (.int .i64 z)).all plain1) = r.flat := by simp [cellsL, plain1, plain0]
  rw [e2]
  exact h
end
section
variable {X : Cx} {F F0 : Mem} {L : Slots} {K K0 : Own} {s : List SI} {ops : Array Oper} {o : Oper} {l : List Oper} {b : Nat} {D : List Nat} {p : List (Nat × Bool)} {listed : Array Bool} {Θ : Tab}
theorem soG {ty : TypeId} {x y : Operand} {t off n : Nat} {z : Int} {G : Nat → Int} {r : Row} {ti : Ty} (hk : JL X ops l s F L (setK t { r with cs := gI (setI G off z) n } K))
    (hg : o.guard = none := by rfl) (ho : o.op = .store ty x y := by rfl) (hd : o.dst = none := by rfl) (hθ : tabOk X.P Θ = true := by exact hT) (hi : Θ.lookup ty = some ti := by rfl)
    (hx : evO L x = some (.pointer (some ⟨t, off, some 0⟩)) := by rfl) (hy : evO L y = some (.int .i64 z) := by rfl) (hr : K.lookup t = some r := by rfl) (hcs : r.cs = gI G n := by rfl) (hsz : ti.size = 1 := by rfl) (hle : off < n := by (try dsimp only); omega) : JL X ops (o :: l) s F L K :=
  JL.step hg (Go1.storeG hθ ho hd hi hx hy hr hcs hsz hle hk)
theorem dsoG {i : Nat} {o : Oper} {ty : TypeId} {x y : Operand} {t off n : Nat} {z : Int} {G : Nat → Int} {r : Row} {ti : Ty} (hk : JD X l b F0 K0 D p (listed.setIfInBounds i true) s F L (setK t { r with cs := gI (setI G off z) n } K))
    (ho' : l[i]? = some o := by rfl) (hg : o.guard = none := by rfl) (ho : o.op = .store ty x y := by rfl) (hd : o.dst = none := by rfl) (hθ : tabOk X.P Θ = true := by exact hT) (hi : Θ.lookup ty = some ti := by rfl)
    (hx : evO L x = some (.pointer (some ⟨t, off, some 0⟩)) := by rfl) (hy : evO L y = some (.int .i64 z) := by rfl) (hr : K.lookup t = some r := by rfl) (hcs : r.cs = gI G n := by rfl) (hsz : ti.size = 1 := by rfl)
    (hle : off < n := by (try dsimp only); omega) (hkp : (listed.setIfInBounds i true).getD b false = true := by rfl) (hi9 : i < 5000 := by exact Nat.le_of_ble_eq_true rfl) : JD X l b F0 K0 D ((i, false) :: p) listed s F L K :=
  JD.op hi9 ho' hg (Go1.storeG hθ ho hd hi hx hy hr hcs hsz hle ⟨.inl hkp, hk⟩)
/-- several makes of one type and length, in any order -/
theorem dmks {c : Nat} {ms : List Nat} {ty el : TypeId} {ti tj : Ty} {q : Int} (eD : Nat → Nat) {L0 : Slots}
    (hk : JD X l b F [] D p (ms.foldl (fun a m => a.setIfInBounds m true) listed) s F ((ms.map fun x => (eD x, .slice (some ⟨eD x, 0, some 0⟩) q.toNat q.toNat)) ++ L0) (ms.map fun x => (eD x, { elem := el, cs := zer tj q.toNat, room := q.toNat * tj.size, flat := true })))
    (hop : ∀ m ∈ ms, ∃ o tm kl, l[m]? = some o ∧ o.guard = none ∧ o.op = .makeSlice ty (.tmp tm) (.tmp tm) ∧ o.dst = some (eD m) ∧ L.lookup tm = some (.int kl q) ∧ (ms.map eD).contains tm = false)
    (hN : ∀ m ∈ ms, eD m < X.N) (hL : ∀ m ∈ ms, ntL (eD m) L = true) (hD : ∀ m ∈ ms, D.contains (eD m) = false)
    (hL0 : LSub L0 L) (hq : 0 ≤ q) (hq2 : q.toNat * tj.bytes ≤ 281474976710656) (hq3 : q ≤ 9223372036854775807) (hnd : (ms.map eD).Nodup) (hc : 1000000 ≤ c := by exact Nat.le_of_ble_eq_true rfl) (hms : decM 20 (c - 1000000) = ms := by rfl) (hlen : ms.length ≤ 20 := by exact Nat.le_of_ble_eq_true rfl)
    (hd0 : (L0.all fun x => !(ms.map eD).contains x.1) = true := by rfl) (hθ : tabOk X.P Θ = true := by exact hT) (hi : Θ.lookup ty = some ti := by rfl) (hki : ti.k = .slice el := by rfl) (hj : Θ.lookup el = some tj := by rfl) (hz0 : tj.zero.length = tj.size := by rfl) (hz1 : 0 < tj.size := by exact Nat.le_of_ble_eq_true rfl) :
    JD X l b F [] D ((c, false) :: p) listed s F L [] := by
  refine JD.many eD (fun x => .slice (some ⟨eD x, 0, some 0⟩) q.toNat q.toNat) (fun x => { elem := el, cs := zer tj q.toNat, room := q.toNat * tj.size, flat := true }) hc hms hnd hlen ?_ hL0 hd0 hk
  intro m hm C hC hmC
  obtain ⟨o, tm, kl, h1, h2, h3, h4, h5, h6⟩ := hop m hm
  refine ⟨o, h1, h2, fun T hT => ?_⟩
  have hinj : ∀ x ∈ ms, eD x = eD m → x = m := by
    intro x hx he
    have aux : ∀ q : List Nat, (q.map eD).Nodup → x ∈ q → m ∈ q → x = m := by
      intro q
      induction q with
      | nil => intro _ h; cases h
      | cons y q ih =>
        intro hn hx hm
        simp only [List.map_cons, List.nodup_cons] at hn
        rcases List.mem_cons.1 hx with h1 | hx <;> rcases List.mem_cons.1 hm with h2 | hm
        · rw [h1, h2]
        · exact absurd (List.mem_map.2 ⟨m, hm, by rw [← he, h1]⟩) hn.1
        · exact absurd (List.mem_map.2 ⟨x, hx, by rw [he, h2]⟩) hn.1
        · exact ih hn.2 hx hm
    exact aux ms hnd hx hm
  have hne : ∀ x ∈ C, eD x ≠ eD m := fun x hx he => hmC (hinj x (hC x hx) he ▸ hx)
  have hlk : ((C.map fun x => (eD x, (.slice (some ⟨eD x, 0, some 0⟩) q.toNat q.toNat : Value))) ++ L).lookup tm = some (.int kl q) := by
    rw [lookup_append_right]
    · exact h5
    · intro hx
      obtain ⟨y, hy, e⟩ := List.mem_map.1 hx
      obtain ⟨x, hx2, rfl⟩ := List.mem_map.1 hy
      simp only [List.contains_eq_mem, decide_eq_false_iff_not] at h6
      exact h6 (List.mem_map.2 ⟨x, hC x hx2, e⟩)
  refine Go1.make hθ h3 h4 (hN m hm) hi hki hj (l := .tmp tm) (c := .tmp tm) hlk hlk (by omega) (by omega) (Nat.le_refl _) hq2 (by omega) hz0 hz1 ?_ ?_ (hD m hm) hT
  · unfold ntL
    rw [List.all_append, Bool.and_eq_true]
    refine ⟨List.all_eq_true.2 fun x hx => ?_, hL m hm⟩
    obtain ⟨y, hy, rfl⟩ := List.mem_map.1 hx
    simp [ntV, nt2, nt1, nt0, hne y hy]
  · unfold ntK
    refine List.all_eq_true.2 fun x hx => ?_
    obtain ⟨y, hy, rfl⟩ := List.mem_map.1 hx
    simp [hne y hy]
/-- a row of numbers, made by the call itself -/
def rI (T : Nat → Int) (n : Nat) : Row := { elem := 3, cs := gI T n, room := n, flat := true }
/-- several slices of numbers -/
theorem dmksI {c : Nat} {ms : List Nat} {ty : TypeId} {ti tj : Ty} {q : Int} (n : Nat) (eD : Nat → Nat) {L0 : Slots}
    (hk : JD X l b F [] D p (ms.foldl (fun a m => a.setIfInBounds m true) listed) s F ((ms.map fun x => (eD x, .slice (some ⟨eD x, 0, some 0⟩) n n)) ++ L0) (ms.map fun x => (eD x, rI (fun _ => 0) n)))
    (hop : ∀ m ∈ ms, ∃ o tm kl, l[m]? = some o ∧ o.guard = none ∧ o.op = .makeSlice ty (.tmp tm) (.tmp tm) ∧ o.dst = some (eD m) ∧ L.lookup tm = some (.int kl q) ∧ (ms.map eD).contains tm = false)
    (hN : ∀ m ∈ ms, eD m < X.N) (hL : ∀ m ∈ ms, ntL (eD m) L = true) (hD : ∀ m ∈ ms, D.contains (eD m) = false)
    (hL0 : LSub L0 L) (hq : q = n) (hq2 : n * 8 ≤ 281474976710656) (hnd : (ms.map eD).Nodup) (hc : 1000000 ≤ c := by exact Nat.le_of_ble_eq_true rfl) (hms : decM 20 (c - 1000000) = ms := by rfl) (hlen : ms.length ≤ 20 := by exact Nat.le_of_ble_eq_true rfl)
    (hd0 : (L0.all fun x => !(ms.map eD).contains x.1) = true := by rfl) (hθ : tabOk X.P Θ = true := by exact hT) (hi : Θ.lookup ty = some ti := by rfl) (hki : ti.k = .slice 3 := by rfl) (hj : Θ.lookup 3 = some tj := by rfl) (hz : tj.zero = [.int .i64 0] := by rfl) (hz0 : tj.size = 1 := by rfl) (hb8 : tj.bytes = 8 := by rfl) :
    JD X l b F [] D ((c, false) :: p) listed s F L [] := by
  have e : q.toNat = n := by omega
  have e2 : ∀ x, zer tj x = gI (fun _ => 0) x := fun x => zer_gI hz x
  refine dmks (ms := ms) (tj := tj) (q := q) eD (L0 := L0) ?_ hop hN hL hD hL0 (by omega) (by rw [e, hb8]; exact hq2) (by omega) hnd hc hms hlen hd0 hθ hi hki hj (by rw [hz, hz0]; rfl) (by omega)
  rw [e]
  simp only [e2, hz0, Nat.mul_one]
  exact hk

end
end Go.Proofs.Ytfcckfiipbdnkaa.Am
namespace Go.Proofs.Ytfcckfiipbdnkaa.Am
open Go
def Θ : Tab := [
  (1, { k := .func, size := 1, bytes := 8, zero := [.nilFunc] }),
  (2, { k := .int .i64, size := 1, bytes := 8, zero := [.int .i64 0] }),
  (3, { k := .int .i64, size := 1, bytes := 8, zero := [.int .i64 0] }),
  (4, { k := .bool, size := 1, bytes := 1, zero := [.bool false] }),
  (5, { k := .int .u8, size := 1, bytes := 1, zero := [.int .u8 0] }),
  (6, { k := .int .u8, size := 1, bytes := 1, zero := [.int .u8 0] }),
  (7, { k := .struct [(0, 2), (1, 3), (2, 4), (3, 6)], size := 4, bytes := 24, zero := [.int .i64 0, .int .i64 0, .bool false, .int .u8 0] }),
  (8, { k := .struct [(0, 2), (1, 3), (2, 4), (3, 6)], size := 4, bytes := 24, zero := [.int .i64 0, .int .i64 0, .bool false, .int .u8 0] }),
  (9, { k := .string, size := 1, bytes := 16, zero := [.string .empty] }),
  (10, { k := .string, size := 1, bytes := 16, zero := [.string .empty] }),
  (11, { k := .string, size := 1, bytes := 16, zero := [.string .empty] }),
  (12, { k := .int .u64, size := 1, bytes := 8, zero := [.int .u64 0] }),
  (13, { k := .struct [(0, 9), (1, 12)], size := 2, bytes := 24, zero := [.string .empty, .int .u64 0] }),
  (14, { k := .struct [(0, 9), (1, 12)], size := 2, bytes := 24, zero := [.string .empty, .int .u64 0] }),
  (15, { k := .ptr 92, size := 1, bytes := 8, zero := [.pointer none] }),
  (16, { k := .ptr 95, size := 1, bytes := 8, zero := [.pointer none] }),
  (17, { k := .ptr 105, size := 1, bytes := 8, zero := [.pointer none] }),
  (18, { k := .struct [(0, 17)], size := 1, bytes := 8, zero := [.pointer none] }),
  (19, { k := .struct [(0, 17)], size := 1, bytes := 8, zero := [.pointer none] }),
  (20, { k := .iface, size := 1, bytes := 16, zero := [.nilIface] }),
  (21, { k := .int .i32, size := 1, bytes := 4, zero := [.int .i32 0] }),
  (22, { k := .slice 46, size := 1, bytes := 24, zero := [.slice none 0 0] }),
  (23, { k := .func, size := 1, bytes := 8, zero := [.nilFunc] }),
  (24, { k := .func, size := 1, bytes := 8, zero := [.nilFunc] }),
  (25, { k := .array 4 3, size := 4, bytes := 32, zero := [.int .i64 0, .int .i64 0, .int .i64 0, .int .i64 0] }),
  (26, { k := .slice 3, size := 1, bytes := 24, zero := [.slice none 0 0] }),
  (27, { k := .struct [(0, 3), (1, 3), (2, 3), (3, 3), (4, 25), (8, 4), (9, 26), (10, 26)], size := 11, bytes := 120, zero := [.int .i64 0, .int .i64 0, .int .i64 0, .int .i64 0, .int .i64 0, .int .i64 0, .int .i64 0, .int .i64 0, .bool false, .slice none 0 0, .slice none 0 0] }),
  (28, { k := .struct [(0, 3), (1, 3), (2, 3), (3, 3), (4, 25), (8, 4), (9, 26), (10, 26)], size := 11, bytes := 120, zero := [.int .i64 0, .int .i64 0, .int .i64 0, .int .i64 0, .int .i64 0, .int .i64 0, .int .i64 0, .int .i64 0, .bool false, .slice none 0 0, .slice none 0 0] }),
  (29, { k := .int .i64, size := 1, bytes := 8, zero := [.int .i64 0] }),
  (31, { k := .func, size := 1, bytes := 8, zero := [.nilFunc] }),
  (33, { k := .func, size := 1, bytes := 8, zero := [.nilFunc] }),
  (34, { k := .func, size := 1, bytes := 8, zero := [.nilFunc] }),
  (35, { k := .func, size := 1, bytes := 8, zero := [.nilFunc] }),
  (36, { k := .func, size := 1, bytes := 8, zero := [.nilFunc] }),
  (37, { k := .func, size := 1, bytes := 8, zero := [.nilFunc] }),
  (39, { k := .func, size := 1, bytes := 8, zero := [.nilFunc] }),
  (41, { k := .func, size := 1, bytes := 8, zero := [.nilFunc] }),
  (43, { k := .func, size := 1, bytes := 8, zero := [.nilFunc] }),
  (44, { k := .func, size := 1, bytes := 8, zero := [.nilFunc] }),
  (45, { k := .struct [(0, 9), (1, 9)], size := 2, bytes := 32, zero := [.string .empty, .string .empty] }),
  (46, { k := .struct [(0, 9), (1, 9)], size := 2, bytes := 32, zero := [.string .empty, .string .empty] }),
  (47, { k := .slice 5, size := 1, bytes := 24, zero := [.slice none 0 0] }),
  (48, { k := .int .u64, size := 1, bytes := 8, zero := [.int .u64 0] }),
  (49, { k := .func, size := 1, bytes := 8, zero := [.nilFunc] }),
  (50, { k := .func, size := 1, bytes := 8, zero := [.nilFunc] }),
  (51, { k := .ptr 53, size := 1, bytes := 8, zero := [.pointer none] }),
  (52, { k := .struct [(0, 28), (11, 3), (12, 3)], size := 13, bytes := 136, zero := [.int .i64 0, .int .i64 0, .int .i64 0, .int .i64 0, .int .i64 0, .int .i64 0, .int .i64 0, .int .i64 0, .bool false, .slice none 0 0, .slice none 0 0, .int .i64 0, .int .i64 0] }),
  (53, { k := .struct [(0, 28), (11, 3), (12, 3)], size := 13, bytes := 136, zero := [.int .i64 0, .int .i64 0, .int .i64 0, .int .i64 0, .int .i64 0, .int .i64 0, .int .i64 0, .int .i64 0, .bool false, .slice none 0 0, .slice none 0 0, .int .i64 0, .int .i64 0] }),
  (54, { k := .slice 58, size := 1, bytes := 24, zero := [.slice none 0 0] }),
  (55, { k := .func, size := 1, bytes := 8, zero := [.nilFunc] }),
  (56, { k := .func, size := 1, bytes := 8, zero := [.nilFunc] }),
  (57, { k := .struct [(0, 9), (1, 3), (2, 56)], size := 3, bytes := 32, zero := [.string .empty, .int .i64 0, .nilFunc] }),
  (58, { k := .struct [(0, 9), (1, 3), (2, 56)], size := 3, bytes := 32, zero := [.string .empty, .int .i64 0, .nilFunc] }),
  (60, { k := .func, size := 1, bytes := 8, zero := [.nilFunc] }),
  (61, { k := .func, size := 1, bytes := 8, zero := [.nilFunc] }),
  (62, { k := .func, size := 1, bytes := 8, zero := [.nilFunc] }),
  (63, { k := .func, size := 1, bytes := 8, zero := [.nilFunc] }),
  (64, { k := .func, size := 1, bytes := 8, zero := [.nilFunc] }),
  (65, { k := .func, size := 1, bytes := 8, zero := [.nilFunc] }),
  (66, { k := .func, size := 1, bytes := 8, zero := [.nilFunc] }),
  (67, { k := .func, size := 1, bytes := 8, zero := [.nilFunc] }),
  (68, { k := .func, size := 1, bytes := 8, zero := [.nilFunc] }),
  (69, { k := .int .u64, size := 1, bytes := 8, zero := [.int .u64 0] }),
  (71, { k := .func, size := 1, bytes := 8, zero := [.nilFunc] }),
  (72, { k := .func, size := 1, bytes := 8, zero := [.nilFunc] }),
  (73, { k := .func, size := 1, bytes := 8, zero := [.nilFunc] }),
  (75, { k := .func, size := 1, bytes := 8, zero := [.nilFunc] }),
  (76, { k := .func, size := 1, bytes := 8, zero := [.nilFunc] }),
  (78, { k := .func, size := 1, bytes := 8, zero := [.nilFunc] }),
  (79, { k := .func, size := 1, bytes := 8, zero := [.nilFunc] }),
  (80, { k := .func, size := 1, bytes := 8, zero := [.nilFunc] }),
  (82, { k := .func, size := 1, bytes := 8, zero := [.nilFunc] }),
  (84, { k := .func, size := 1, bytes := 8, zero := [.nilFunc] }),
  (85, { k := .int .i16, size := 1, bytes := 2, zero := [.int .i16 0] }),
  (86, { k := .iface, size := 1, bytes := 16, zero := [.nilIface] }),
  (87, { k := .iface, size := 1, bytes := 16, zero := [.nilIface] }),
  (88, { k := .func, size := 1, bytes := 8, zero := [.nilFunc] }),
  (89, { k := .ptr 107, size := 1, bytes := 8, zero := [.pointer none] }),
  (90, { k := .func, size := 1, bytes := 8, zero := [.nilFunc] }),
  (91, { k := .struct [(0, 17), (1, 17), (2, 17), (3, 9)], size := 4, bytes := 40, zero := [.pointer none, .pointer none, .pointer none, .string .empty] }),
  (92, { k := .struct [(0, 17), (1, 17), (2, 17), (3, 9)], size := 4, bytes := 40, zero := [.pointer none, .pointer none, .pointer none, .string .empty] }),
  (93, { k := .array 0 16, size := 0, bytes := 0, zero := [] }),
  (94, { k := .struct [(0, 93)], size := 0, bytes := 0, zero := [] }),
  (95, { k := .struct [(0, 93)], size := 0, bytes := 0, zero := [] }),
  (96, { k := .func, size := 1, bytes := 8, zero := [.nilFunc] }),
  (97, { k := .int .u32, size := 1, bytes := 4, zero := [.int .u32 0] }),
  (98, { k := .int .u8, size := 1, bytes := 1, zero := [.int .u8 0] }),
  (99, { k := .int .u8, size := 1, bytes := 1, zero := [.int .u8 0] }),
  (100, { k := .func, size := 1, bytes := 8, zero := [.nilFunc] }),
  (101, { k := .ptr 5, size := 1, bytes := 8, zero := [.pointer none] }),
  (102, { k := .int .i32, size := 1, bytes := 4, zero := [.int .i32 0] }),
  (103, { k := .int .i32, size := 1, bytes := 4, zero := [.int .i32 0] }),
  (104, { k := .struct [(0, 12), (1, 12), (2, 97), (3, 98), (4, 5), (5, 5), (6, 99), (7, 100), (8, 101), (9, 102), (10, 103)], size := 11, bytes := 48, zero := [.int .u64 0, .int .u64 0, .int .u32 0, .int .u8 0, .int .u8 0, .int .u8 0, .int .u8 0, .nilFunc, .pointer none, .int .i32 0, .int .i32 0] }),
  (105, { k := .struct [(0, 12), (1, 12), (2, 97), (3, 98), (4, 5), (5, 5), (6, 99), (7, 100), (8, 101), (9, 102), (10, 103)], size := 11, bytes := 48, zero := [.int .u64 0, .int .u64 0, .int .u32 0, .int .u8 0, .int .u8 0, .int .u8 0, .int .u8 0, .nilFunc, .pointer none, .int .i32 0, .int .i32 0] }),
  (106, { k := .struct [(0, 9)], size := 1, bytes := 16, zero := [.string .empty] }),
  (107, { k := .struct [(0, 9)], size := 1, bytes := 16, zero := [.string .empty] })
]
set_option maxRecDepth 100000 in
theorem hT : tabOk Try.prog Θ = true := by kernel_rfl
end Go.Proofs.Ytfcckfiipbdnkaa.Am
namespace Go.Proofs.Ytfcckfiipbdnkaa.Am
set_option linter.unusedSimpArgs false
set_option linter.unusedVariables false
open Go Go.RowKit
/-! Rules for walks that are written by a program: each step's lemma is named. -/
def spB : Option Nat → Bool
  | none => true
  | some 0 => true
  | _ => false
theorem addA_sp {b o : Nat} {sp : Option Nat} (h : spB sp = true) {m : Nat} : addA ⟨b, o, sp⟩ m = ⟨b, o + m, sp⟩ := by
  rcases sp with _ | _ | s
  · rfl
  · rfl
  · cases h
section
variable {F : Mem} {K : Own} {L : Slots}
theorem O {o : Op} {v : Value} (h : dOp Θ (evO L) o = some v := by rfl) : SD Try.prog F K L o v := SD.of hT h
theorem sdA {t t' : TypeId} {x y : Operand} {a b : Int} (hx : evO L x = some (.int .i64 a) := by rfl) (hy : evO L y = some (.int .i64 b) := by rfl) (h0 : -9223372036854775808 ≤ a + b := by first | omega | (dsimp only; omega)) (h1 : a + b < 9223372036854775808 := by first | omega | (dsimp only; omega)) : SD Try.prog F K L (.binOp .add t x y t') (.int .i64 (a + b)) := SD.addI hx hy h0 h1
theorem sdS {t t' : TypeId} {x y : Operand} {a b : Int} (hx : evO L x = some (.int .i64 a) := by rfl) (hy : evO L y = some (.int .i64 b) := by rfl) (h0 : -9223372036854775808 ≤ a - b := by first | omega | (dsimp only; omega)) (h1 : a - b < 9223372036854775808 := by first | omega | (dsimp only; omega)) : SD Try.prog F K L (.binOp .sub t x y t') (.int .i64 (a - b)) := SD.subI hx hy h0 h1
theorem sdM {t t' : TypeId} {x y : Operand} {a b : Int} (hx : evO L x = some (.int .i64 a) := by rfl) (hy : evO L y = some (.int .i64 b) := by rfl) (h0 : -9223372036854775808 ≤ a * b := by first | omega | (dsimp only; omega)) (h1 : a * b < 9223372036854775808 := by first | omega | (dsimp only; omega)) : SD Try.prog F K L (.binOp .mul t x y t') (.int .i64 (a * b)) := SD.mulI hx hy h0 h1
theorem sdN {t : TypeId} {x : Operand} {a : Int} (hx : evO L x = some (.int .i64 a) := by rfl) (h0 : -9223372036854775808 ≤ -a := by first | omega | (dsimp only; omega)) (h1 : -a < 9223372036854775808 := by first | omega | (dsimp only; omega)) : SD Try.prog F K L (.unOp .neg t x) (.int .i64 (-a)) := SD.negI hx h0 h1
theorem sdQ {t t' : TypeId} {x y : Operand} {a b : Int} (hx : evO L x = some (.int .i64 a) := by rfl) (hy : evO L y = some (.int .i64 b) := by rfl) (h0 : 0 ≤ a := by first | omega | (dsimp only; omega)) (h1 : a < 9223372036854775808 := by first | omega | (dsimp only; omega)) (h2 : 0 < b := by first | omega | (dsimp only; omega)) : SD Try.prog F K L (.binOp .quo t x y t') (.int .i64 (a / b)) := SD.quoI hx hy h0 h1 h2
theorem sdR {t t' : TypeId} {x y : Operand} {a b : Int} (hx : evO L x = some (.int .i64 a) := by rfl) (hy : evO L y = some (.int .i64 b) := by rfl) (h0 : 0 ≤ a := by first | omega | (dsimp only; omega)) (h2 : 0 < b := by first | omega | (dsimp only; omega)) : SD Try.prog F K L (.binOp .rem t x y t') (.int .i64 (a % b)) := SD.remI hx hy h0 h2
theorem sdSl {t t' : TypeId} {x y : Operand} {k j : IntKind} {a b : Int} (hx : evO L x = some (.int k a) := by rfl) (hy : evO L y = some (.int j b) := by rfl) (hb : 0 ≤ b := by first | omega | (dsimp only; omega)) : SD Try.prog F K L (.binOp .shl t x y t') (.int k (k.wrap (a * 2 ^ (min b.toNat k.bits)))) := SD.shlK hx hy hb
theorem sdSr {t t' : TypeId} {x y : Operand} {k j : IntKind} {a b : Int} (hx : evO L x = some (.int k a) := by rfl) (hy : evO L y = some (.int j b) := by rfl) (hb : 0 ≤ b := by first | omega | (dsimp only; omega)) : SD Try.prog F K L (.binOp .shr t x y t') (.int k (a.fdiv (2 ^ (min b.toNat k.bits)))) := SD.shrK hx hy hb
theorem sdX {t el : TypeId} {x i : Operand} {b off n c z : Nat} {sp : Option Nat} {k : IntKind} {q : Int} {ti tj : Ty} (ht : Θ.lookup t = some ti := by rfl) (hk : ti.k = .slice el := by rfl) (hj : Θ.lookup el = some tj := by rfl) (hz : tj.size = z := by rfl) (hx : evO L x = some (.slice (some ⟨b, off, sp⟩) n c) := by rfl) (hi : evO L i = some (.int k q) := by rfl) (h0 : 0 ≤ q := by first | omega | (dsimp only; omega)) (h1 : q < n := by first | omega | (dsimp only; omega)) (hs : spB sp = true := by rfl) : SD Try.prog F K L (.indexAddr t x i) (.pointer (some ⟨b, off + q.toNat * z, sp⟩)) := by
  have h := SD.idxS (F := F) (K := K) hT ht hk hj hx hi h0 h1
  rw [addA_sp hs, hz] at h
  exact h
theorem sdXA {t el : TypeId} {x i : Operand} {b off n z : Nat} {sp : Option Nat} {k : IntKind} {q : Int} {ti tj : Ty} (ht : Θ.lookup t = some ti := by rfl) (hk : ti.k = .array n el := by rfl) (hj : Θ.lookup el = some tj := by rfl) (hz : tj.size = z := by rfl) (hx : evO L x = some (.pointer (some ⟨b, off, sp⟩)) := by rfl) (hi : evO L i = some (.int k q) := by rfl) (h0 : 0 ≤ q := by first | omega | (dsimp only; omega)) (h1 : q < n := by first | omega | (dsimp only; omega)) (hs : spB sp = true := by rfl) : SD Try.prog F K L (.indexAddr t x i) (.pointer (some ⟨b, off + q.toNat * z, sp⟩)) := by
  have h := SD.idxA (F := F) (K := K) hT ht hk hj hx hi h0 h1
  rw [addA_sp hs, hz] at h
  exact h
theorem sdFA {s f : Nat} {x : Operand} {b off o : Nat} {sp : Option Nat} {j : Ty} (hf : fldOf Θ s f = some (o, j) := by rfl) (hj : (j.size == 0) = false := by rfl) (hx : evO L x = some (.pointer (some ⟨b, off, sp⟩)) := by rfl) (hs : spB sp = true := by rfl) : SD Try.prog F K L (.fieldAddr s x f) (.pointer (some ⟨b, off + o, sp⟩)) := by
  refine SD.of hT ?_
  have : ¬ j.size = 0 := by simpa using hj
  simp only [dOp, hf, hx, this, if_false, addA_sp hs]
theorem sdXs {t : TypeId} {x i : Operand} {s : ByteArray} {k : IntKind} {q : Int} {ti : Ty} (ht : Θ.lookup t = some ti := by rfl) (hk : ti.k = .string := by rfl) (hx : evO L x = some (.string s) := by rfl) (hi : evO L i = some (.int k q) := by rfl) (h0 : 0 ≤ q := by first | omega | (dsimp only; omega)) (h1 : q < s.size := by first | omega | (dsimp only; omega)) : SD Try.prog F K L (.index t x i) (.int .u8 (byteAt s q.toNat)) := SD.idxStr hT ht hk hx hi h0 h1
theorem sdL {t : TypeId} {x : Operand} {a : Addr} {ti : Ty} {v : Value} (ht : Θ.lookup t = some ti := by rfl) (hag : aggB ti.k = false := by rfl) (hx : evO L x = some (.pointer (some a)) := by rfl) (hv : rdA F K a = some v := by first | rfl | assumption) : SD Try.prog F K L (.load t x) v := SD.load hT ht hag hx hv
theorem sdW {t : TypeId} {x : Operand} {a : Addr} {ti : Ty} {v : Value} (ht : Θ.lookup t = some ti := by rfl) (hag : aggB ti.k = false := by rfl) (hx : evO L x = some (.pointer (some a)) := by rfl) (hv : rdA F K a = some v := by assumption) : SD Try.prog F K L (.load t x) v := SD.load hT ht hag hx hv
theorem sdLN {t : TypeId} {x : Operand} {a : Addr} {ti : Ty} {cs : List Value} (ht : Θ.lookup t = some ti := by rfl) (hag : aggB ti.k = true := by rfl) (hx : evO L x = some (.pointer (some a)) := by rfl) (hv : rdN F K a ti.size = some cs := by first | rfl | assumption) : SD Try.prog F K L (.load t x) (.agg ⟨cs⟩) := SD.loadN hT ht hag hx hv
theorem sdLG {t : TypeId} {x : Operand} {ti : Ty} {b off n : Nat} {G : Nat → Int} {r : Row} (ht : Θ.lookup t = some ti := by rfl) (hag : aggB ti.k = false := by rfl) (hx : evO L x = some (.pointer (some ⟨b, off, some 0⟩)) := by rfl) (hr : K.lookup b = some r := by rfl) (hcs : r.cs = gI G n := by rfl) (hlt : off < n := by first | omega | (dsimp only; omega)) : SD Try.prog F K L (.load t x) (.int .i64 (G off)) := SD.loadG hT ht hag hx hr hcs hlt
end
theorem LSub.app {a b L : Slots} (ha : LSub a L) (hb : LSub b L) : LSub (a ++ b) L := by
  induction a with
  | nil => exact hb
  | cons x a ih => exact ⟨ha.1, ih ha.2⟩
/-- pieces behind which less may be told -/
def wk : List SI → Bool
  | .code _ :: _ => true
  | .blk _ :: s => wk s
  | _ => false
section
variable {X : Cx} {F F0 : Mem} {L : Slots} {K K0 : Own} {s : List SI} {ops : Array Oper} {o : Oper} {l : List Oper} {b : Nat} {D : List Nat} {p : List (Nat × Bool)} {listed : Array Bool}
theorem J.weakS : ∀ {s : List SI} {L0 : Slots} {K0 : Own}, wk s = true → LSub L0 L → KSub K0 K → J X s F L0 K0 → J X s F L K
  | .code _ :: _, _, _, _, hL, hK, h => WP.weak hL hK h
  | .blk _ :: s, _, _, hs, hL, hK, h => J.weakS (s := s) hs hL hK h
  | .back _ :: _, _, _, hs, _, _, _ => by simp [wk] at hs
  | [], _, _, hs, _, _, _ => by simp [wk] at hs
theorem J.dropF {c : Code} {Y : List (Nat × Row)} (h : J X (.code c :: s) F L K) : J X (.code c :: s) (F.add Y) L K := fun ι a w hF hS => h ι a w hF hS.drop
theorem JL.dropF {Y : List (Nat × Row)} (h : JL X ops l s F L K) : JL X ops l s (F.add Y) L K := fun ι a w hF hS => h ι a w hF hS.drop
theorem J.loop1 {c : Code} {α : Type} (ok : α → Prop) (Lf : α → Slots) (kp : Slots) (Kf : α → Own) (kk : Own) (μ : α → Nat) (x0 : α) (hL : LSub (Lf x0) L) (hk : LSub kp L) (hK : KSub (Kf x0 ++ kk) K) (h0 : ok x0)
    (round : ∀ x L1 K1, L1 = Lf x ++ kp → K1 = Kf x ++ kk → ok x → J X (.code c :: .back (fun F' L' K' => ∃ x', μ x' < μ x ∧ ok x' ∧ F' = F ∧ LSub (Lf x') L' ∧ LSub kp L' ∧ KSub (Kf x' ++ kk) K') :: s) F L1 K1) : J X (.code (.loop c) :: s) F L K :=
  J.loop (α := α) (fun p F' L' K' => ok p ∧ F' = F ∧ LSub (Lf p ++ kp) L' ∧ KSub (Kf p ++ kk) K') (fun p => μ p) (x0) ⟨h0, rfl, hL.app hk, hK⟩ (by
    rintro x F' L' K' ⟨h1, rfl, h2, h3⟩
    refine WP.weak h2 h3 ?_
    intro ι a w hF hS
    refine wp_mono (round x _ _ rfl rfl h1 ι a w hF hS) fun e a' w' hl => ?_
    obtain ⟨ι1, F1, L1, K1, g1, g2, g3, g4⟩ := hl
    refine ⟨ι1, F1, L1, K1, g1, g2, g3, ?_⟩
    cases e with
    | normal =>
      obtain ⟨x', q1, q2, q3, q4, q5, q6⟩ := g4
      exact ⟨x', q1, q2, q3, q4.app q5, q6⟩
    | _ => exact g4)
theorem bk1 {α : Type} {ok : α → Prop} {Lf : α → Slots} {kp : Slots} {Kf : α → Own} {kk : Own} {μ : α → Nat} {m : Nat} (x' : α) (hL : LSub (Lf x') L) (hk : LSub kp L) (hK : KSub (Kf x' ++ kk) K) (hμ : μ x' < m) (hok : ok x') :
    J X (.back (fun F' L' K' => ∃ x', μ x' < m ∧ ok x' ∧ F' = F ∧ LSub (Lf x') L' ∧ LSub kp L' ∧ KSub (Kf x' ++ kk) K') :: s) F L K := ⟨x', hμ, hok, rfl, hL, hk, hK⟩
theorem J.cut1 {c : Code} {α : Type} (ok : α → Prop) (Lf : α → Slots) (kp : Slots) (Kf : α → Own) (kk : Own) (hk0 : LSub kp L) (hK0 : KSub kk K)
    (h : J X (.code c :: .back (fun F' L' K' => ∃ x', ok x' ∧ F' = F ∧ LSub (Lf x') L' ∧ LSub kp L' ∧ KSub (Kf x' ++ kk) K') :: s) F L K)
    (hn : ∀ x L1 K1, L1 = Lf x ++ kp → K1 = Kf x ++ kk → ok x → J X s F L1 K1) (hs : wk s = true := by rfl) : J X (.code c :: s) F L K :=
  J.cut _ h (by
    rintro F' L' K' ⟨x', h1, rfl, h2, h3, h4⟩
    exact J.weakS hs (h2.app h3) h4 (hn x' _ _ rfl rfl h1))
theorem ck1 {α : Type} {ok : α → Prop} {Lf : α → Slots} {kp : Slots} {Kf : α → Own} {kk : Own} (x' : α) (hL : LSub (Lf x') L) (hk : LSub kp L) (hK : KSub (Kf x' ++ kk) K) (hok : ok x') :
    J X (.back (fun F' L' K' => ∃ x', ok x' ∧ F' = F ∧ LSub (Lf x') L' ∧ LSub kp L' ∧ KSub (Kf x' ++ kk) K') :: s) F L K := ⟨x', hok, rfl, hL, hk, hK⟩
theorem J.loop2 {c : Code} {α β : Type} (ok : α → β → Prop) (Lf : α → β → Slots) (kp : Slots) (Kf : α → β → Own) (kk : Own) (μ : α → β → Nat) (x0 : α) (y0 : β) (hL : LSub (Lf x0 y0) L) (hk : LSub kp L) (hK : KSub (Kf x0 y0 ++ kk) K) (h0 : ok x0 y0)
    (round : ∀ x y L1 K1, L1 = Lf x y ++ kp → K1 = Kf x y ++ kk → ok x y → J X (.code c :: .back (fun F' L' K' => ∃ x' y', μ x' y' < μ x y ∧ ok x' y' ∧ F' = F ∧ LSub (Lf x' y') L' ∧ LSub kp L' ∧ KSub (Kf x' y' ++ kk) K') :: s) F L1 K1) : J X (.code (.loop c) :: s) F L K :=
  J.loop (α := α × β) (fun p F' L' K' => ok p.1 p.2 ∧ F' = F ∧ LSub (Lf p.1 p.2 ++ kp) L' ∧ KSub (Kf p.1 p.2 ++ kk) K') (fun p => μ p.1 p.2) (x0, y0) ⟨h0, rfl, hL.app hk, hK⟩ (by
    rintro ⟨x, y⟩ F' L' K' ⟨h1, rfl, h2, h3⟩
    refine WP.weak h2 h3 ?_
    intro ι a w hF hS
    refine wp_mono (round x y _ _ rfl rfl h1 ι a w hF hS) fun e a' w' hl => ?_
    obtain ⟨ι1, F1, L1, K1, g1, g2, g3, g4⟩ := hl
    refine ⟨ι1, F1, L1, K1, g1, g2, g3, ?_⟩
    cases e with
    | normal =>
      obtain ⟨x', y', q1, q2, q3, q4, q5, q6⟩ := g4
      exact ⟨⟨x', y'⟩, q1, q2, q3, q4.app q5, q6⟩
    | _ => exact g4)
theorem bk2 {α β : Type} {ok : α → β → Prop} {Lf : α → β → Slots} {kp : Slots} {Kf : α → β → Own} {kk : Own} {μ : α → β → Nat} {m : Nat} (x' : α) (y' : β) (hL : LSub (Lf x' y') L) (hk : LSub kp L) (hK : KSub (Kf x' y' ++ kk) K) (hμ : μ x' y' < m) (hok : ok x' y') :
    J X (.back (fun F' L' K' => ∃ x' y', μ x' y' < m ∧ ok x' y' ∧ F' = F ∧ LSub (Lf x' y') L' ∧ LSub kp L' ∧ KSub (Kf x' y' ++ kk) K') :: s) F L K := ⟨x', y', hμ, hok, rfl, hL, hk, hK⟩
theorem J.cut2 {c : Code} {α β : Type} (ok : α → β → Prop) (Lf : α → β → Slots) (kp : Slots) (Kf : α → β → Own) (kk : Own) (hk0 : LSub kp L) (hK0 : KSub kk K)
    (h : J X (.code c :: .back (fun F' L' K' => ∃ x' y', ok x' y' ∧ F' = F ∧ LSub (Lf x' y') L' ∧ LSub kp L' ∧ KSub (Kf x' y' ++ kk) K') :: s) F L K)
    (hn : ∀ x y L1 K1, L1 = Lf x y ++ kp → K1 = Kf x y ++ kk → ok x y → J X s F L1 K1) (hs : wk s = true := by rfl) : J X (.code c :: s) F L K :=
  J.cut _ h (by
    rintro F' L' K' ⟨x', y', h1, rfl, h2, h3, h4⟩
    exact J.weakS hs (h2.app h3) h4 (hn x' y' _ _ rfl rfl h1))
theorem ck2 {α β : Type} {ok : α → β → Prop} {Lf : α → β → Slots} {kp : Slots} {Kf : α → β → Own} {kk : Own} (x' : α) (y' : β) (hL : LSub (Lf x' y') L) (hk : LSub kp L) (hK : KSub (Kf x' y' ++ kk) K) (hok : ok x' y') :
    J X (.back (fun F' L' K' => ∃ x' y', ok x' y' ∧ F' = F ∧ LSub (Lf x' y') L' ∧ LSub kp L' ∧ KSub (Kf x' y' ++ kk) K') :: s) F L K := ⟨x', y', hok, rfl, hL, hk, hK⟩
theorem J.loop3 {c : Code} {α β γ : Type} (ok : α → β → γ → Prop) (Lf : α → β → γ → Slots) (kp : Slots) (Kf : α → β → γ → Own) (kk : Own) (μ : α → β → γ → Nat) (x0 : α) (y0 : β) (z0 : γ) (hL : LSub (Lf x0 y0 z0) L) (hk : LSub kp L) (hK : KSub (Kf x0 y0 z0 ++ kk) K) (h0 : ok x0 y0 z0)
    (round : ∀ x y z L1 K1, L1 = Lf x y z ++ kp → K1 = Kf x y z ++ kk → ok x y z → J X (.code c :: .back (fun F' L' K' => ∃ x' y' z', μ x' y' z' < μ x y z ∧ ok x' y' z' ∧ F' = F ∧ LSub (Lf x' y' z') L' ∧ LSub kp L' ∧ KSub (Kf x' y' z' ++ kk) K') :: s) F L1 K1) : J X (.code (.loop c) :: s) F L K :=
  J.loop (α := α × β × γ) (fun p F' L' K' => ok p.1 p.2.1 p.2.2 ∧ F' = F ∧ LSub (Lf p.1 p.2.1 p.2.2 ++ kp) L' ∧ KSub (Kf p.1 p.2.1 p.2.2 ++ kk) K') (fun p => μ p.1 p.2.1 p.2.2) (x0, y0, z0) ⟨h0, rfl, hL.app hk, hK⟩ (by
    rintro ⟨x, y, z⟩ F' L' K' ⟨h1, rfl, h2, h3⟩
    refine WP.weak h2 h3 ?_
    intro ι a w hF hS
    refine wp_mono (round x y z _ _ rfl rfl h1 ι a w hF hS) fun e a' w' hl => ?_
    obtain ⟨ι1, F1, L1, K1, g1, g2, g3, g4⟩ := hl
    refine ⟨ι1, F1, L1, K1, g1, g2, g3, ?_⟩
    cases e with
    | normal =>
      obtain ⟨x', y', z', q1, q2, q3, q4, q5, q6⟩ := g4
      exact ⟨⟨x', y', z'⟩, q1, q2, q3, q4.app q5, q6⟩
    | _ => exact g4)
theorem bk3 {α β γ : Type} {ok : α → β → γ → Prop} {Lf : α → β → γ → Slots} {kp : Slots} {Kf : α → β → γ → Own} {kk : Own} {μ : α → β → γ → Nat} {m : Nat} (x' : α) (y' : β) (z' : γ) (hL : LSub (Lf x' y' z') L) (hk : LSub kp L) (hK : KSub (Kf x' y' z' ++ kk) K) (hμ : μ x' y' z' < m) (hok : ok x' y' z') :
    J X (.back (fun F' L' K' => ∃ x' y' z', μ x' y' z' < m ∧ ok x' y' z' ∧ F' = F ∧ LSub (Lf x' y' z') L' ∧ LSub kp L' ∧ KSub (Kf x' y' z' ++ kk) K') :: s) F L K := ⟨x', y', z', hμ, hok, rfl, hL, hk, hK⟩
theorem J.cut3 {c : Code} {α β γ : Type} (ok : α → β → γ → Prop) (Lf : α → β → γ → Slots) (kp : Slots) (Kf : α → β → γ → Own) (kk : Own) (hk0 : LSub kp L) (hK0 : KSub kk K)
    (h : J X (.code c :: .back (fun F' L' K' => ∃ x' y' z', ok x' y' z' ∧ F' = F ∧ LSub (Lf x' y' z') L' ∧ LSub kp L' ∧ KSub (Kf x' y' z' ++ kk) K') :: s) F L K)
    (hn : ∀ x y z L1 K1, L1 = Lf x y z ++ kp → K1 = Kf x y z ++ kk → ok x y z → J X s F L1 K1) (hs : wk s = true := by rfl) : J X (.code c :: s) F L K :=
  J.cut _ h (by
    rintro F' L' K' ⟨x', y', z', h1, rfl, h2, h3, h4⟩
    exact J.weakS hs (h2.app h3) h4 (hn x' y' z' _ _ rfl rfl h1))
theorem ck3 {α β γ : Type} {ok : α → β → γ → Prop} {Lf : α → β → γ → Slots} {kp : Slots} {Kf : α → β → γ → Own} {kk : Own} (x' : α) (y' : β) (z' : γ) (hL : LSub (Lf x' y' z') L) (hk : LSub kp L) (hK : KSub (Kf x' y' z' ++ kk) K) (hok : ok x' y' z') :
    J X (.back (fun F' L' K' => ∃ x' y' z', ok x' y' z' ∧ F' = F ∧ LSub (Lf x' y' z') L' ∧ LSub kp L' ∧ KSub (Kf x' y' z' ++ kk) K') :: s) F L K := ⟨x', y', z', hok, rfl, hL, hk, hK⟩
theorem J.loop4 {c : Code} {α β γ δ : Type} (ok : α → β → γ → δ → Prop) (Lf : α → β → γ → δ → Slots) (kp : Slots) (Kf : α → β → γ → δ → Own) (kk : Own) (μ : α → β → γ → δ → Nat) (x0 : α) (y0 : β) (z0 : γ) (u0 : δ) (hL : LSub (Lf x0 y0 z0 u0) L) (hk : LSub kp L) (hK : KSub (Kf x0 y0 z0 u0 ++ kk) K) (h0 : ok x0 y0 z0 u0)
    (round : ∀ x y z u L1 K1, L1 = Lf x y z u ++ kp → K1 = Kf x y z u ++ kk → ok x y z u → J X (.code c :: .back (fun F' L' K' => ∃ x' y' z' u', μ x' y' z' u' < μ x y z u ∧ ok x' y' z' u' ∧ F' = F ∧ LSub (Lf x' y' z' u') L' ∧ LSub kp L' ∧ KSub (Kf x' y' z' u' ++ kk) K') :: s) F L1 K1) : J X (.code (.loop c) :: s) F L K :=
  J.loop (α := α × β × γ × δ) (fun p F' L' K' => ok p.1 p.2.1 p.2.2.1 p.2.2.2 ∧ F' = F ∧ LSub (Lf p.1 p.2.1 p.2.2.1 p.2.2.2 ++ kp) L' ∧ KSub (Kf p.1 p.2.1 p.2.2.1 p.2.2.2 ++ kk) K') (fun p => μ p.1 p.2.1 p.2.2.1 p.2.2.2) (x0, y0, z0, u0) ⟨h0, rfl, hL.app hk, hK⟩ (by
    rintro ⟨x, y, z, u⟩ F' L' K' ⟨h1, rfl, h2, h3⟩
    refine WP.weak h2 h3 ?_
    intro ι a w hF hS
    refine wp_mono (round x y z u _ _ rfl rfl h1 ι a w hF hS) fun e a' w' hl => ?_
    obtain ⟨ι1, F1, L1, K1, g1, g2, g3, g4⟩ := hl
    refine ⟨ι1, F1, L1, K1, g1, g2, g3, ?_⟩
    cases e with
    | normal =>
      obtain ⟨x', y', z', u', q1, q2, q3, q4, q5, q6⟩ := g4
      exact ⟨⟨x', y', z', u'⟩, q1, q2, q3, q4.app q5, q6⟩
    | _ => exact g4)
theorem bk4 {α β γ δ : Type} {ok : α → β → γ → δ → Prop} {Lf : α → β → γ → δ → Slots} {kp : Slots} {Kf : α → β → γ → δ → Own} {kk : Own} {μ : α → β → γ → δ → Nat} {m : Nat} (x' : α) (y' : β) (z' : γ) (u' : δ) (hL : LSub (Lf x' y' z' u') L) (hk : LSub kp L) (hK : KSub (Kf x' y' z' u' ++ kk) K) (hμ : μ x' y' z' u' < m) (hok : ok x' y' z' u') :
    J X (.back (fun F' L' K' => ∃ x' y' z' u', μ x' y' z' u' < m ∧ ok x' y' z' u' ∧ F' = F ∧ LSub (Lf x' y' z' u') L' ∧ LSub kp L' ∧ KSub (Kf x' y' z' u' ++ kk) K') :: s) F L K := ⟨x', y', z', u', hμ, hok, rfl, hL, hk, hK⟩
theorem J.cut4 {c : Code} {α β γ δ : Type} (ok : α → β → γ → δ → Prop) (Lf : α → β → γ → δ → Slots) (kp : Slots) (Kf : α → β → γ → δ → Own) (kk : Own) (hk0 : LSub kp L) (hK0 : KSub kk K)
    (h : J X (.code c :: .back (fun F' L' K' => ∃ x' y' z' u', ok x' y' z' u' ∧ F' = F ∧ LSub (Lf x' y' z' u') L' ∧ LSub kp L' ∧ KSub (Kf x' y' z' u' ++ kk) K') :: s) F L K)
    (hn : ∀ x y z u L1 K1, L1 = Lf x y z u ++ kp → K1 = Kf x y z u ++ kk → ok x y z u → J X s F L1 K1) (hs : wk s = true := by rfl) : J X (.code c :: s) F L K :=
  J.cut _ h (by
    rintro F' L' K' ⟨x', y', z', u', h1, rfl, h2, h3, h4⟩
    exact J.weakS hs (h2.app h3) h4 (hn x' y' z' u' _ _ rfl rfl h1))
theorem ck4 {α β γ δ : Type} {ok : α → β → γ → δ → Prop} {Lf : α → β → γ → δ → Slots} {kp : Slots} {Kf : α → β → γ → δ → Own} {kk : Own} (x' : α) (y' : β) (z' : γ) (u' : δ) (hL : LSub (Lf x' y' z' u') L) (hk : LSub kp L) (hK : KSub (Kf x' y' z' u' ++ kk) K) (hok : ok x' y' z' u') :
    J X (.back (fun F' L' K' => ∃ x' y' z' u', ok x' y' z' u' ∧ F' = F ∧ LSub (Lf x' y' z' u') L' ∧ LSub kp L' ∧ KSub (Kf x' y' z' u' ++ kk) K') :: s) F L K := ⟨x', y', z', u', hok, rfl, hL, hk, hK⟩
theorem J.loop5 {c : Code} {α β γ δ ε : Type} (ok : α → β → γ → δ → ε → Prop) (Lf : α → β → γ → δ → ε → Slots) (kp : Slots) (Kf : α → β → γ → δ → ε → Own) (kk : Own) (μ : α → β → γ → δ → ε → Nat) (x0 : α) (y0 : β) (z0 : γ) (u0 : δ) (t0 : ε) (hL : LSub (Lf x0 y0 z0 u0 t0) L) (hk : LSub kp L) (hK : KSub (Kf x0 y0 z0 u0 t0 ++ kk) K) (h0 : ok x0 y0 z0 u0 t0)
    (round : ∀ x y z u t L1 K1, L1 = Lf x y z u t ++ kp → K1 = Kf x y z u t ++ kk → ok x y z u t → J X (.code c :: .back (fun F' L' K' => ∃ x' y' z' u' t', μ x' y' z' u' t' < μ x y z u t ∧ ok x' y' z' u' t' ∧ F' = F ∧ LSub (Lf x' y' z' u' t') L' ∧ LSub kp L' ∧ KSub (Kf x' y' z' u' t' ++ kk) K') :: s) F L1 K1) : J X (.code (.loop c) :: s) F L K :=
  J.loop (α := α × β × γ × δ × ε) (fun p F' L' K' => ok p.1 p.2.1 p.2.2.1 p.2.2.2.1 p.2.2.2.2 ∧ F' = F ∧ LSub (Lf p.1 p.2.1 p.2.2.1 p.2.2.2.1 p.2.2.2.2 ++ kp) L' ∧ KSub (Kf p.1 p.2.1 p.2.2.1 p.2.2.2.1 p.2.2.2.2 ++ kk) K') (fun p => μ p.1 p.2.1 p.2.2.1 p.2.2.2.1 p.2.2.2.2) (x0, y0, z0, u0, t0) ⟨h0, rfl, hL.app hk, hK⟩ (by
    rintro ⟨x, y, z, u, t⟩ F' L' K' ⟨h1, rfl, h2, h3⟩
    refine WP.weak h2 h3 ?_
    intro ι a w hF hS
    refine wp_mono (round x y z u t _ _ rfl rfl h1 ι a w hF hS) fun e a' w' hl => ?_
    obtain ⟨ι1, F1, L1, K1, g1, g2, g3, g4⟩ := hl
    refine ⟨ι1, F1, L1, K1, g1, g2, g3, ?_⟩
    cases e with
    | normal =>
      obtain ⟨x', y', z', u', t', q1, q2, q3, q4, q5, q6⟩ := g4
      exact ⟨⟨x', y', z', u', t'⟩, q1, q2, q3, q4.app q5, q6⟩
    | _ => exact g4)
theorem bk5 {α β γ δ ε : Type} {ok : α → β → γ → δ → ε → Prop} {Lf : α → β → γ → δ → ε → Slots} {kp : Slots} {Kf : α → β → γ → δ → ε → Own} {kk : Own} {μ : α → β → γ → δ → ε → Nat} {m : Nat} (x' : α) (y' : β) (z' : γ) (u' : δ) (t' : ε) (hL : LSub (Lf x' y' z' u' t') L) (hk : LSub kp L) (hK : KSub (Kf x' y' z' u' t' ++ kk) K) (hμ : μ x' y' z' u' t' < m) (hok : ok x' y' z' u' t') :
    J X (.back (fun F' L' K' => ∃ x' y' z' u' t', μ x' y' z' u' t' < m ∧ ok x' y' z' u' t' ∧ F' = F ∧ LSub (Lf x' y' z' u' t') L' ∧ LSub kp L' ∧ KSub (Kf x' y' z' u' t' ++ kk) K') :: s) F L K := ⟨x', y', z', u', t', hμ, hok, rfl, hL, hk, hK⟩
theorem J.cut5 {c : Code} {α β γ δ ε : Type} (ok : α → β → γ → δ → ε → Prop) (Lf : α → β → γ → δ → ε → Slots) (kp : Slots) (Kf : α → β → γ → δ → ε → Own) (kk : Own) (hk0 : LSub kp L) (hK0 : KSub kk K)
    (h : J X (.code c :: .back (fun F' L' K' => ∃ x' y' z' u' t', ok x' y' z' u' t' ∧ F' = F ∧ LSub (Lf x' y' z' u' t') L' ∧ LSub kp L' ∧ KSub (Kf x' y' z' u' t' ++ kk) K') :: s) F L K)
    (hn : ∀ x y z u t L1 K1, L1 = Lf x y z u t ++ kp → K1 = Kf x y z u t ++ kk → ok x y z u t → J X s F L1 K1) (hs : wk s = true := by rfl) : J X (.code c :: s) F L K :=
  J.cut _ h (by
    rintro F' L' K' ⟨x', y', z', u', t', h1, rfl, h2, h3, h4⟩
    exact J.weakS hs (h2.app h3) h4 (hn x' y' z' u' t' _ _ rfl rfl h1))
theorem ck5 {α β γ δ ε : Type} {ok : α → β → γ → δ → ε → Prop} {Lf : α → β → γ → δ → ε → Slots} {kp : Slots} {Kf : α → β → γ → δ → ε → Own} {kk : Own} (x' : α) (y' : β) (z' : γ) (u' : δ) (t' : ε) (hL : LSub (Lf x' y' z' u' t') L) (hk : LSub kp L) (hK : KSub (Kf x' y' z' u' t' ++ kk) K) (hok : ok x' y' z' u' t') :
    J X (.back (fun F' L' K' => ∃ x' y' z' u' t', ok x' y' z' u' t' ∧ F' = F ∧ LSub (Lf x' y' z' u' t') L' ∧ LSub kp L' ∧ KSub (Kf x' y' z' u' t' ++ kk) K') :: s) F L K := ⟨x', y', z', u', t', hok, rfl, hL, hk, hK⟩
/-! Calls of functions that leave rows. -/
theorem clC {f d : Nat} {args : Array Operand} {ts : Array TypeId} {vs : List Value} {Q : Value → List (Nat × Row) → Prop}
    (hk : ∀ v Y, Q v Y → (∀ κ, rV κ v = v) → (∀ x ∈ Y, ∀ u ∈ x.2.cs, plain1 u = true) → New F Y → JL X ops l s (F.add Y) ((d, v) :: L) K)
    (hg : o.guard = none := by rfl) (ho : o.op = .call ⟨.value (.func f), args, ts⟩ := by rfl) (hd : o.dst = some d := by rfl) (hN : d < X.N := by exact Nat.le_of_ble_eq_true rfl) (hargs : mapE (evO L) args.toList = some vs := by rfl) (hfn : fnOk X.P f = true := by kernel_rfl) (h : ∀ ι, Val ι K F → F.le (push ι K F) → C X.P f (vs.map (rV ι)) (push ι K F) Q) : JL X ops (o :: l) s F L K :=
  JL.callC hg ho hd hN hargs hfn h hk
theorem clgC {f d j e : Nat} {want : Bool} {args : Array Operand} {ts : Array TypeId} {vs : List Value} {Q : Value → List (Nat × Row) → Prop}
    (hk : ∀ v Y, Q v Y → (∀ κ, rV κ v = v) → (∀ x ∈ Y, ∀ u ∈ x.2.cs, plain1 u = true) → New F Y → JL X ops l s (F.add Y) ((d, v) :: L) K)
    (hg : o.guard = some (j, want) := by rfl) (hj : (ops[j]?).bind (·.dst) = some e := by rfl) (hb : L.lookup e = some (.bool want) := by rfl) (ho : o.op = .call ⟨.value (.func f), args, ts⟩ := by rfl) (hd : o.dst = some d := by rfl) (hN : d < X.N := by exact Nat.le_of_ble_eq_true rfl) (hargs : mapE (evO L) args.toList = some vs := by rfl) (hfn : fnOk X.P f = true := by kernel_rfl) (h : ∀ ι, Val ι K F → F.le (push ι K F) → C X.P f (vs.map (rV ι)) (push ι K F) Q) : JL X ops (o :: l) s F L K :=
  JL.callCG hg hj hb ho hd hN hargs hfn h hk
theorem dclC {i f d : Nat} {o : Oper} {args : Array Operand} {ts : Array TypeId} {vs : List Value} {Q : Value → List (Nat × Row) → Prop}
    (hk : ∀ v Y, Q v Y → (∀ κ, rV κ v = v) → (∀ x ∈ Y, ∀ u ∈ x.2.cs, plain1 u = true) → New F Y → JD X l b F0 K0 D p (listed.setIfInBounds i true) s (F.add Y) ((d, v) :: L) K)
    (hkp : Kept b F0 K0 (listed.setIfInBounds i true) F K := by first | exact Kept.same | exact Kept.all) (ho : l[i]? = some o := by rfl) (hg : o.guard = none := by rfl) (hop : o.op = .call ⟨.value (.func f), args, ts⟩ := by rfl) (hd : o.dst = some d := by rfl) (hN : d < X.N := by exact Nat.le_of_ble_eq_true rfl) (hargs : mapE (evO L) args.toList = some vs := by rfl) (hfn : fnOk X.P f = true := by kernel_rfl) (hi9 : i < 5000 := by exact Nat.le_of_ble_eq_true rfl) (h : ∀ ι, Val ι K F → F.le (push ι K F) → C X.P f (vs.map (rV ι)) (push ι K F) Q) : JD X l b F0 K0 D ((i, false) :: p) listed s F L K :=
  JD.callC_ hi9 ho (fun ι a _ => by simp [Region.wanted, hg]) hop hd hN hargs hfn hkp h hk
theorem Kept.k0 (h : KSub K0 K := by repeat' first | exact trivial | refine And.intro rfl ?_) : Kept b F K0 listed F K := .inr ⟨h, [], rfl⟩
theorem Kept.kY {Y : List (Nat × Row)} (h : KSub K0 K := by repeat' first | exact trivial | refine And.intro rfl ?_) : Kept b F K0 listed (F.add Y) K := .inr ⟨h, Y, rfl⟩
theorem Kept.addF {Y : List (Nat × Row)} (hn : (K0.map Prod.fst).Nodup := by first | exact List.nodup_nil | (simp; done)) : Kept b F0 K0 listed (F0.add Y) K0 := .inr ⟨KSub.refl hn, Y, rfl⟩
end
/-- rows that can be read -/
def Rd (G : Mem) (Y : List (Nat × Row)) : Prop := ∀ x ∈ Y, ∀ (o : Nat) (u : Value), x.2.cs[o]? = some u → look G ⟨x.1, o, none⟩ = some u
theorem Rd.gI {G : Mem} {Y : List (Nat × Row)} (h : Rd G Y) {b n i : Nat} {ι : Nat → Nat} {W : Nat → Int} (hm : (b, (rI W n).r ι) ∈ Y) (hi : i < n) : look G ⟨b, i, none⟩ = some (.int .i64 (W i)) := by
  refine h _ hm i _ ?_
  simp only [Row.r, rI, List.getElem?_map, gI_get hi, Option.map_some]
  rfl
section
variable {F : Mem} {L : Slots} {K : Own} {s : List SI}
/-- the end: all of the call's own rows are left -/
theorem outX.all {Q : Value → List (Nat × Row) → Prop} {v : Value} (h : ∀ ι, Val ι K F → Q (rV ι v) (K.map fun x => (ι x.1, x.2.r ι))) : outX F Q v F K :=
  ⟨[], rfl, fun x hx => by simp at hx, fun ι hv => ⟨K.map fun x => (ι x.1, x.2.r ι), fun x hx => by simpa using hx, by
    have := (List.nodup_append.1 hv.nodup).1
    simpa [List.map_map, Function.comp_def] using this, h ι hv⟩⟩
theorem rtX {Θ : Tab} {rs : List ResultVar} {Q : Value → List (Nat × Row) → Prop} {v : Value} {P : Program} {N : Nat} {D : List Nat} (h : ∀ ι, Val ι K F → Q (rV ι v) (K.map fun x => (ι x.1, x.2.r ι))) (hr : resV Θ F L K rs = some v := by rfl) : J ⟨P, N, D, retR Θ rs (outX F Q)⟩ (.code .ret :: s) F L K := J.ret ⟨v, hr, outX.all h⟩
theorem reX {Θ : Tab} {rs : List ResultVar} {Q : Value → List (Nat × Row) → Prop} {v : Value} {P : Program} {N : Nat} {D : List Nat} (h : ∀ ι, Val ι K F → Q (rV ι v) (K.map fun x => (ι x.1, x.2.r ι))) (hr : resV Θ F L K rs = some v := by rfl) : J ⟨P, N, D, retR Θ rs (outX F Q)⟩ [] F L K := ⟨v, hr, outX.all h⟩
end
theorem sem_goto {X : Cx} (h : ∀ c F L K, ¬ X.R (.goto c) F L K) {c : Nat} {F : Mem} {L : Slots} {K : Own} : ∀ {s : List SI}, ¬ sem X s (.goto c) F L K
  | [] => h c F L K
  | .code _ :: s => sem_goto h (s := s)
  | .blk _ :: s => sem_goto h (s := s)
  | .back _ :: s => sem_goto h (s := s)
/-- a scope of labels that nothing jumps to -/
theorem sc {X : Cx} {F : Mem} {L : Slots} {K : Own} {s : List SI} {c : Code} (h : J X (.code c :: s) F L K) (hR : ∀ c F L K, ¬ X.R (.goto c) F L K := by intro _ _ _ _ h; exact h) : J X (.code (.scope c) :: s) F L K := by
  intro ι a w hF hS
  refine wp_scope_straight (wp_mono (h ι a w hF hS) fun e a' w' hl => ?_)
  cases e with
  | goto l =>
    obtain ⟨ι1, F1, L1, K1, h1, h2, h3, h4⟩ := hl
    exact absurd h4 (sem_goto hR)
  | _ => exact hl
end Go.Proofs.Ytfcckfiipbdnkaa.Am
namespace Go.Proofs.Ytfcckfiipbdnkaa.Am
set_option linter.unusedSimpArgs false
set_option linter.unusedVariables false
open Go Go.RowKit
/-! append, in a walk: the result's row keeps the tag that its elder had. -/
theorem rowcK {F : Mem} {ι : Nat → Nat} {K : Own} {w : World} {t u b : Nat} {r : Row} (h : St F ι ((t, r) :: K) w) (hu : ntK u K = true) {x : Nat × Row} (hx : x ∈ K) : x.1 ≠ u ∧ x.2.c (upd ι u b) = x.2.c ι := by
  have := List.all_eq_true.1 hu x hx
  simp only [Bool.and_eq_true, Bool.or_eq_true, bne_iff_ne, ne_eq] at this
  refine ⟨this.1, ?_⟩
  rcases this.2 with hf | hf
  · exact Row.c_flat _ _ ((h.own x (List.mem_cons_of_mem _ hx)).2.2 hf)
  · exact Row.c_nt (fun v hv => upd_ne ι hv) hf
theorem LSub.cons {Lk L : Slots} {d : Nat} {v : Value} (h : LSub Lk L) (hd : (Lk.all fun x => x.1 != d) = true) : LSub ((d, v) :: Lk) ((d, v) :: L) := by
  refine ⟨by simp [List.lookup_cons], LSub.of_all fun x hx => ?_⟩
  have h1 := List.all_eq_true.1 hd x hx
  have h2 : (x.1 == d) = false := by simpa [bne] using h1
  rw [List.lookup_cons, h2]
  exact h.all_of x hx
theorem KSub.cons {Kk K : Own} {u : Nat} {r : Row} (h : KSub Kk K) (hd : (Kk.all fun x => x.1 != u) = true) : KSub ((u, r) :: Kk) ((u, r) :: K) := by
  refine ⟨by simp [List.lookup_cons], by simpa using hd, KSub.of_all h.tags fun x hx => ?_⟩
  have h1 := List.all_eq_true.1 hd x hx
  have h2 : (x.1 == u) = false := by simpa [bne] using h1
  rw [List.lookup_cons, h2]
  exact h.mem x hx
theorem lookup_del {K : Own} {a u : Nat} (h : a ≠ u) : (delK u K).lookup a = K.lookup a := by
  induction K with
  | nil => rfl
  | cons x K ih =>
    obtain ⟨b, r⟩ := x
    unfold delK at ih ⊢
    by_cases hb : b = u
    · subst hb
      have h2 : (a == b) = false := by simpa using h
      rw [List.filter_cons_of_neg (by simp), List.lookup_cons, h2]
      exact ih
    · rw [List.filter_cons_of_pos (by simpa using hb), List.lookup_cons, List.lookup_cons, ih]
theorem KSub.del {Kk K : Own} {u : Nat} (h : KSub Kk K) (hd : (Kk.all fun x => x.1 != u) = true) : KSub Kk (delK u K) := by
  refine KSub.of_all h.tags fun x hx => ?_
  have h1 := List.all_eq_true.1 hd x hx
  rw [lookup_del (by simpa using h1)]
  exact h.mem x hx
theorem ntK_ne {t : Nat} {K : Own} (h : ntK t K = true) : (K.all fun x => x.1 != t) = true := by
  rw [List.all_eq_true]
  intro x hx
  have := List.all_eq_true.1 h x hx
  simp only [Bool.and_eq_true] at this
  exact this.1
theorem St.retag {F : Mem} {ι : Nat → Nat} {K : Own} {w : World} {t u : Nat} {r : Row} (h : St F ι ((t, r) :: K) w) (hu : ntK u K = true) (hr : (r.flat || r.cs.all (nt1 u)) = true) : St F (upd ι u (ι t)) ((u, r) :: K) w := by
  have hmap : (K.map fun x => upd ι u (ι t) x.1) = K.map fun x => ι x.1 := List.map_congr_left fun x hx => upd_ne ι (rowcK h hu hx (b := 0)).1
  have hrow : r.c (upd ι u (ι t)) = r.c ι := by
    simp only [Bool.or_eq_true] at hr
    rcases hr with hf | hf
    · exact Row.c_flat _ _ ((h.own _ List.mem_cons_self).2.2 hf)
    · exact Row.c_nt (fun v hv => upd_ne ι hv) hf
  refine ⟨h.below, ?_, fun x hx => ?_, h.ext⟩
  · have := h.nodup
    simpa only [List.map_cons, hmap, upd_eq] using this
  · rcases List.mem_cons.1 hx with rfl | hx
    · have := h.own _ List.mem_cons_self
      simp only [upd_eq, hrow]
      exact this
    · obtain ⟨h1, h2⟩ := rowcK h hu hx (b := ι t)
      have := h.own x (List.mem_cons_of_mem _ hx)
      rw [upd_ne ι h1, h2]; exact this
section
variable {X : Cx} {F : Mem} {L : Slots} {K : Own} {s : List SI} {ops : Array Oper} {o : Oper} {l : List Oper}
theorem JL.retag {d t u n c : Nat} {r : Row} {Lk : Slots} {Kk : Own} (hL : ntL u Lk = true) (hK : ntK u Kk = true) (hr : (r.flat || r.cs.all (nt1 u)) = true) (hD : X.D.contains u = false)
    (h : JL X ops l s F ((d, .slice (some ⟨u, 0, some 0⟩) n c) :: Lk) ((u, r) :: Kk)) : JL X ops l s F ((d, .slice (some ⟨t, 0, some 0⟩) n c) :: Lk) ((t, r) :: Kk) := by
  intro ι a w hF hS
  have hagree : ∀ v ∈ X.D, upd ι u (ι t) v = ι v := fun v hv => upd_ne ι (fun e => by subst e; simp at hD; exact hD hv)
  refine JL.tr hagree (h (upd ι u (ι t)) a w ?_ (hS.retag hK hr))
  refine ⟨hF.size, hF.defers, fun s v hv => ?_⟩
  rw [List.lookup_cons] at hv
  split at hv
  · rename_i e
    have e1 : s = d := by simpa using e
    subst e1
    simp only [Option.some.injEq] at hv
    subst hv
    have := hF.slot s (.slice (some ⟨t, 0, some 0⟩) n c) (by simp [List.lookup_cons])
    simpa [upd_eq] using this
  · rename_i e
    have h1 := hF.slot s v (by rw [List.lookup_cons, e]; exact hv)
    rw [cV_nt (fun v hv => upd_ne ι hv) (List.all_eq_true.1 hL _ (lookup_mem hv))]
    exact h1
/-- a literal slice -/
theorem sl {Θ : Tab} {ty el : TypeId} {parts : Array (Nat × Operand)} {d n : Nat} {ti tj : Ty} {ps : List (Nat × List Value)} {cs : List Value} (hk : JL X ops l s F ((d, .slice (some ⟨d, 0, some 0⟩) n n) :: L) ((d, { elem := el, cs := cs, room := n * tj.size, flat := false }) :: K))
    (hg : o.guard = none := by rfl) (ho : o.op = .buildSlice ty n parts := by rfl) (hd : o.dst = some d := by rfl) (hN : d < X.N := by exact Nat.le_of_ble_eq_true rfl) (hθ : tabOk X.P Θ = true := by exact hT) (hi : Θ.lookup ty = some ti := by rfl) (hki : ti.k = .slice el := by rfl) (hj : Θ.lookup el = some tj := by rfl)
    (hp : partsL (evO L) parts.toList = some ps := by rfl) (h1 : ps.all (fun q => q.2.all (·.oneCell')) = true := by rfl) (hf : fillL (fun i => some (i * tj.size, tj.size)) (zer tj n) ps = some cs := by rfl) (hs : n * tj.size ≤ 16777216 := by exact Nat.le_of_ble_eq_true rfl) (hz0 : tj.zero.length = tj.size := by rfl) (hz1 : 0 < tj.size := by exact Nat.le_of_ble_eq_true rfl)
    (hL : ntL d L = true := by rfl) (hK : ntK d K = true := by rfl) (hD : X.D.contains d = false := by rfl) : JL X ops (o :: l) s F L K :=
  JL.step hg (Go1.slit hθ ho hd hN hi hki hj hp h1 hf hs hz0 hz1 hL hK hD hk)
/-- append to nothing -/
theorem apN {Θ : Tab} {ty ty' el : TypeId} {sx x : Operand} {d m : Nat} {ti ti' tj : Ty} {xv : Value} {news : List Value} (u : Nat) (fl : Bool) (Lk : Slots) (Kk : Own)
    (hk : ∀ cap, m ≤ cap → cap ≤ 9223372036854775807 → JL X ops l s F ((d, .slice (some ⟨u, 0, some 0⟩) m cap) :: Lk) ((u, { elem := el, cs := news, room := cap * tj.size, flat := fl }) :: Kk))
    (hg : o.guard = none := by rfl) (ho : o.op = .call ⟨.builtin .append, #[sx, x], #[ty, ty']⟩ := by rfl) (hd : o.dst = some d := by rfl) (hN : d < X.N := by exact Nat.le_of_ble_eq_true rfl) (hθ : tabOk X.P Θ = true := by exact hT)
    (hi : Θ.lookup ty = some ti := by rfl) (hki : ti.k = .slice el := by rfl) (hi' : Θ.lookup ty' = some ti' := by rfl) (hk' : slB ti'.k = true := by rfl) (hj : Θ.lookup el = some tj := by rfl) (hz0 : tj.zero.length = tj.size := by rfl) (hz1 : 0 < tj.size := by exact Nat.le_of_ble_eq_true rfl)
    (hs : evO L sx = some (.slice none 0 0) := by rfl) (hx : evO L x = some xv := by rfl) (happ : App X.P F K tj.size xv m news := by exact App.slice rfl (by simp [Value.oneCell']; done) rfl) (hLk : LSub Lk L := by repeat' first | exact trivial | refine And.intro rfl ?_) (hKk : KSub Kk K := by repeat' first | exact trivial | refine And.intro rfl ?_)
    (hm : 0 < m := by first | exact Nat.le_of_ble_eq_true rfl | omega) (h63 : m ≤ 9223372036854775807 := by first | exact Nat.le_of_ble_eq_true rfl | omega) (hby : m * tj.bytes ≤ 140737488355328 := by first | exact Nat.le_of_ble_eq_true rfl | (dsimp only; omega))
    (hflat : fl = true → news.all plain1 = true := by intro _; rfl) (hL : ntL u L = true := by rfl) (hK : ntK u K = true := by rfl) (hnn : news.all (nt1 u) = true := by rfl) (hD : X.D.contains u = false := by rfl) (hdk : (Lk.all fun x => x.1 != d) = true := by rfl) (hKu : ntK u Kk = true := by rfl) : JL X ops (o :: l) s F L K := by
  refine JL.step hg (Go1.append (t := u) (n := 0) (c := 0) (olds := []) (K0 := K) (fz := false) (fl := fl) hθ ho hd hN hi hki hi' hk' hj hz0 hz1 hs hx happ hm (.inl ⟨rfl, rfl, rfl, rfl, rfl⟩) (by simp) hflat (by omega) (by simpa using hby) hL hK hnn hD ?_)
  intro cap h1 h2
  simp only [Nat.zero_add, List.nil_append] at h1 ⊢
  exact JL.weak (hLk.cons hdk) (hKk.cons (ntK_ne hKu)) (hk cap h1 h2)
/-- append to one of the call's own rows, of the tag u; t is a tag that nothing has -/
theorem apO {Θ : Tab} {ty ty' el : TypeId} {sx x : Operand} {d m n c : Nat} {ti ti' tj : Ty} {xv : Value} {news : List Value} {r : Row} (t u : Nat) (Lk : Slots) (Kk : Own)
    (hk : ∀ cap, n + m ≤ cap → cap ≤ 9223372036854775807 → JL X ops l s F ((d, .slice (some ⟨u, 0, some 0⟩) (n + m) cap) :: Lk) ((u, { elem := el, cs := r.cs ++ news, room := cap * tj.size, fz := r.fz, flat := r.flat }) :: Kk))
    (hg : o.guard = none := by rfl) (ho : o.op = .call ⟨.builtin .append, #[sx, x], #[ty, ty']⟩ := by rfl) (hd : o.dst = some d := by rfl) (hN : d < X.N := by exact Nat.le_of_ble_eq_true rfl) (hθ : tabOk X.P Θ = true := by exact hT)
    (hi : Θ.lookup ty = some ti := by rfl) (hki : ti.k = .slice el := by rfl) (hi' : Θ.lookup ty' = some ti' := by rfl) (hk' : slB ti'.k = true := by rfl) (hj : Θ.lookup el = some tj := by rfl) (hz0 : tj.zero.length = tj.size := by rfl) (hz1 : 0 < tj.size := by exact Nat.le_of_ble_eq_true rfl)
    (hs : evO L sx = some (.slice (some ⟨u, 0, some 0⟩) n c) := by rfl) (hx : evO L x = some xv := by rfl) (hr : K.lookup u = some r := by rfl) (happ : App X.P F K tj.size xv m news := by exact App.slice rfl (by simp [Value.oneCell']; done) rfl) (hLk : LSub Lk L := by repeat' first | exact trivial | refine And.intro rfl ?_) (hKk : KSub Kk K := by repeat' first | exact trivial | refine And.intro rfl ?_)
    (hroom : r.room = c * tj.size := by rfl) (hel : r.elem = el := by rfl) (hol : r.cs.length = n * tj.size := by first | rfl | (dsimp only; omega) | (simp; done) | (simp; omega)) (hnc : n ≤ c := by omega) (hcm : c ≤ 9223372036854775807 := by omega)
    (hm : 0 < m := by first | exact Nat.le_of_ble_eq_true rfl | omega) (h63 : n + m ≤ 9223372036854775807 := by omega) (hby : (n + m) * tj.bytes ≤ 140737488355328 := by (dsimp only; omega))
    (hflat : r.flat = true → news.all plain1 = true := by intro _; rfl) (hL : ntL t L = true := by rfl) (hK : ntK t K = true := by rfl) (hnn : news.all (nt1 t) = true := by rfl) (hD : X.D.contains t = false := by rfl) (hDu : X.D.contains u = false := by rfl) (hdk : (Lk.all fun x => x.1 != d) = true := by rfl) (hKu : ntK u Kk = true := by rfl) (hKt : ntK t Kk = true := by rfl) (hLu : ntL u Lk = true := by rfl)
    (hru : (r.flat || (r.cs ++ news).all (nt1 u)) = true := by rfl) : JL X ops (o :: l) s F L K := by
  refine JL.step hg (Go1.append (t := t) (n := n) (c := c) (olds := r.cs) (K0 := delK u K) (fz := r.fz) (fl := r.flat) hθ ho hd hN hi hki hi' hk' hj hz0 hz1 hs hx happ hm (.inr ⟨u, r, rfl, hr, rfl, hroom, hel, hnc, hcm, rfl, id, id⟩) hol hflat h63 hby hL hK hnn hD ?_)
  intro cap h1 h2
  exact JL.weak (hLk.cons hdk) ((hKk.del (ntK_ne hKu)).cons (ntK_ne hKt)) (JL.retag hLu hKu hru hDu (hk cap h1 h2))
end
/-! Lists that are built by append: nothing yet, or a row of one's own. -/
def apV (t : Nat) (o : Option Nat) (n : Nat) : Value := match o with
  | none => .slice none 0 0
  | some c => .slice (some ⟨t, 0, some 0⟩) n c
def apR (t : Nat) (el : TypeId) (sz : Nat) (fl : Bool) (o : Option Nat) (cs : List Value) : Own := match o with
  | none => []
  | some c => [(t, { elem := el, cs := cs, room := c * sz, fz := false, flat := fl })]
/-- what is known of such a list's room -/
def apB (o : Option Nat) (n : Nat) : Prop := match o with
  | none => n = 0
  | some c => n ≤ c ∧ c ≤ 9223372036854775807
def ivs (xs : List Int) : List Value := xs.map (.int .i64 ·)
theorem ivs_length (xs : List Int) : (ivs xs).length = xs.length := by simp [ivs]
theorem ivs_append (xs ys : List Int) : ivs (xs ++ ys) = ivs xs ++ ivs ys := by simp [ivs]
theorem ivs_c (ι : Nat → Nat) (xs : List Int) : (ivs xs).map (c1 ι) = ivs xs := by
  unfold ivs
  rw [List.map_map]
  exact List.map_congr_left fun b _ => rfl
theorem ivs_r (ι : Nat → Nat) (xs : List Int) : (ivs xs).map (r1 ι) = ivs xs := by
  unfold ivs
  rw [List.map_map]
  exact List.map_congr_left fun b _ => rfl
theorem ivs_get {xs : List Int} {i : Nat} {x : Int} (h : xs[i]? = some x) : (ivs xs)[i]? = some (.int .i64 x) := by simp [ivs, h]
theorem ivs_snoc (xs : List Int) (x : Int) : ivs xs ++ [.int .i64 x] = ivs (xs ++ [x]) := by simp [ivs]
theorem Rd.ivs {G : Mem} {Y : List (Nat × Row)} (h : Rd G Y) {b c : Nat} {ι : Nat → Nat} {r : Row} {xs : List Int} (hm : (b, r.r ι) ∈ Y) (hcs : r.cs = Am.ivs xs) (hl : xs.length ≤ 9223372036854775807) : RInts G (.slice (some ⟨b, 0, none⟩) xs.length c) xs := by
  refine .inl ⟨b, 0, c, rfl, hl, fun i x hx => ?_⟩
  rw [Nat.zero_add]
  refine h _ hm i _ ?_
  simp only [Row.r, hcs, ivs_r]
  exact ivs_get hx
theorem zer_gIn {ti : Ty} {s : Nat} (h : ti.zero = List.replicate s (.int .i64 0)) (n : Nat) : zer ti n = gI (fun _ => 0) (n * s) := by
  unfold zer
  rw [h]
  apply List.ext_getElem?
  intro i
  by_cases hi : i < n * s
  · rw [gI_get hi, flat_get _ _ _ (by simpa using hi)]
    have h0 : 0 < s := by rcases Nat.eq_zero_or_pos s with h | h; · subst h; simp at hi
                          · exact h
    simp [List.getElem?_replicate, Nat.mod_lt _ h0]
  · rw [List.getElem?_eq_none (by simp; omega), List.getElem?_eq_none (by simp [gI_length]; omega)]
theorem tup2 {a a' b b' : Value} (h1 : a = a') (h2 : b = b') : Value.tuple #[a, b] = Value.tuple #[a', b'] := by rw [h1, h2]
theorem tup3 {a a' b b' c c' : Value} (h1 : a = a') (h2 : b = b') (h3 : c = c') : Value.tuple #[a, b, c] = Value.tuple #[a', b', c'] := by rw [h1, h2, h3]
theorem tup4 {a a' b b' c c' d d' : Value} (h1 : a = a') (h2 : b = b') (h3 : c = c') (h4 : d = d') : Value.tuple #[a, b, c, d] = Value.tuple #[a', b', c', d'] := by rw [h1, h2, h3, h4]
end Go.Proofs.Ytfcckfiipbdnkaa.Am
namespace Go.Proofs.Ytfcckfiipbdnkaa.Am
set_option linter.unusedSimpArgs false
set_option linter.unusedVariables false
open Go Go.RowKit
/-! Numbers of 64 bits without a sign. -/
theorem wrapu (n : Int) : IntKind.u64.wrap n = n % 18446744073709551616 := by simp [IntKind.wrap, IntKind.bits, IntKind.signed]
theorem wraps_u64 (n : Int) (h0 : 0 ≤ n) (h1 : n < 2 ^ 64) : IntKind.u64.wrap n = n := by rw [wrapu]; omega
theorem wraps_i64 (n : Int) (h0 : 0 ≤ n) (h1 : n < 2 ^ 63) : IntKind.i64.wrap n = n := wrap_i64 (by omega) (by omega)
theorem u64_and32 (x : Int) (h0 : 0 ≤ x) (h1 : x < 18446744073709551616) : Go.bits .and .u64 x 4294967295 = x % 4294967296 := bits_mask .u64 64 (by decide) wraps_u64 32 (by decide) x h0 (by omega)
theorem u64_and1 (x : Int) (h0 : 0 ≤ x) (h1 : x < 18446744073709551616) : Go.bits .and .u64 x 1 = x % 2 := bits_mask .u64 64 (by decide) wraps_u64 1 (by decide) x h0 (by omega)
theorem i64_and63 (x : Int) (h0 : 0 ≤ x) (h1 : x < 9223372036854775808) : Go.bits .and .i64 x 63 = x % 64 := bits_mask .i64 63 (by decide) wraps_i64 6 (by decide) x h0 (by omega)
theorem u64_or1 (x y : Int) (h0 : 0 ≤ x) (hx : x % 2 = 0) (h1 : x < 18446744073709551616) (h2 : 0 ≤ y) (h3 : y < 2) : Go.bits .or .u64 x y = x + y :=
  bits_join .u64 64 (by decide) wraps_u64 1 x y h0 (by simpa using hx) (by omega) h2 (by simpa using h3) (by omega)
theorem u64_or32 (x y : Int) (h0 : 0 ≤ x) (hx : x % 4294967296 = 0) (h1 : x < 18446744073709551616) (h2 : 0 ≤ y) (h3 : y < 4294967296) : Go.bits .or .u64 x y = x + y :=
  bits_join .u64 64 (by decide) wraps_u64 32 x y h0 (by simpa using hx) (by omega) h2 (by simpa using h3) (by omega)
theorem mul_bd {x y : Int} (hx0 : 0 ≤ x) (hx : x ≤ 4294967295) (hy0 : 0 ≤ y) (hy : y ≤ 4294967295) : 0 ≤ x * y ∧ x * y ≤ 18446744065119617025 := by
  constructor
  · exact Int.mul_nonneg hx0 hy0
  · have := Int.mul_le_mul hx hy hy0 (by omega : (0 : Int) ≤ 4294967295)
    omega
theorem split_mul (a b : Int) : a * b = (a / 4294967296) * (b / 4294967296) * 18446744073709551616 + ((a / 4294967296) * (b % 4294967296) + (a % 4294967296) * (b / 4294967296)) * 4294967296 + (a % 4294967296) * (b % 4294967296) := by
  have ha : a = (a / 4294967296) * 4294967296 + a % 4294967296 := by omega
  have hb : b = (b / 4294967296) * 4294967296 + b % 4294967296 := by omega
  generalize a / 4294967296 = a1 at *
  generalize a % 4294967296 = a0 at *
  generalize b / 4294967296 = b1 at *
  generalize b % 4294967296 = b0 at *
  subst ha hb
  grind
theorem mul_hi_lo (p11 p10 p01 p00 ab : Int) (h : ab = p11 * 18446744073709551616 + (p10 + p01) * 4294967296 + p00)
    (a0 : 0 ≤ p11) (a1 : p11 ≤ 18446744065119617025) (b0 : 0 ≤ p10) (b1 : p10 ≤ 18446744065119617025) (c0 : 0 ≤ p01) (c1 : p01 ≤ 18446744065119617025) (d0 : 0 ≤ p00) (d1 : p00 ≤ 18446744065119617025) (hab : ab < 340282366920938463463374607431768211456) :
    (p11 + (p10 + p00 / 4294967296) / 4294967296 + ((p10 + p00 / 4294967296) % 4294967296 + p01) / 4294967296) = ab / 18446744073709551616 ∧
    ((p10 + p00 / 4294967296) % 4294967296 + p01) % 4294967296 * 4294967296 + p00 % 4294967296 = ab % 18446744073709551616 := by
  subst h
  constructor <;> omega
theorem mul_lt_sq {a b : Int} (ha0 : 0 ≤ a) (ha : a < 18446744073709551616) (hb0 : 0 ≤ b) (hb : b < 18446744073709551616) : 0 ≤ a * b ∧ a * b < 340282366920938463463374607431768211456 := by
  constructor
  · exact Int.mul_nonneg ha0 hb0
  · have := Int.mul_le_mul (show a ≤ 18446744073709551615 by omega) (show b ≤ 18446744073709551615 by omega) hb0 (by omega)
    omega
/-- one bit more of the dividend -/
theorem bit_step {P c b : Int} (hc : 0 < c) (hb0 : 0 ≤ b) (hb : b < 2) :
    (2 * P + b) / c = 2 * (P / c) + (if 2 * (P % c) + b ≥ c then 1 else 0) ∧ (2 * P + b) % c = 2 * (P % c) + b - (if 2 * (P % c) + b ≥ c then c else 0) := by
  have hd := Int.mul_ediv_add_emod P c
  have h0 := Int.emod_nonneg P (by omega : c ≠ 0)
  have h1 := Int.emod_lt_of_pos P hc
  generalize P / c = q at *
  generalize P % c = r at *
  by_cases h : 2 * r + b ≥ c
  · simp only [if_pos h]
    have e : 2 * P + b = (2 * r + b - c) + (2 * q + 1) * c := by rw [← hd]; grind
    rw [e, Int.add_mul_ediv_right _ _ (by omega), Int.add_mul_emod_self_right, Int.ediv_eq_zero_of_lt (by omega) (by omega), Int.emod_eq_of_lt (by omega) (by omega)]
    omega
  · simp only [if_neg h]
    have e : 2 * P + b = (2 * r + b) + (2 * q) * c := by rw [← hd]; grind
    rw [e, Int.add_mul_ediv_right _ _ (by omega), Int.add_mul_emod_self_right, Int.ediv_eq_zero_of_lt (by omega) (by omega), Int.emod_eq_of_lt (by omega) (by omega)]
    omega
theorem half_pow (D : Int) (i : Nat) : D / 2 ^ i = 2 * (D / 2 ^ (i + 1)) + D / 2 ^ i % 2 := by
  have e : D / 2 ^ (i + 1) = D / 2 ^ i / 2 := by
    rw [Int.pow_succ, Int.ediv_ediv_of_nonneg (Int.le_of_lt (Int.pow_pos (by decide)))]
  rw [e]; omega
theorem low_bit {hi lo : Int} (i : Nat) (hi' : i ≤ 63) : lo / 2 ^ i % 2 = (hi * 18446744073709551616 + lo) / 2 ^ i % 2 := by
  have e : hi * 18446744073709551616 + lo = lo + (hi * 2 ^ (63 - i) * 2) * 2 ^ i := by
    have : (18446744073709551616 : Int) = 2 ^ (63 - i) * 2 * 2 ^ i := by
      rw [← Int.pow_succ, ← Int.pow_add, show 63 - i + 1 + i = 64 from by omega]; rfl
    rw [this]; grind
  rw [e, Int.add_mul_ediv_right _ _ (Int.ne_of_gt (Int.pow_pos (by decide)))]
  omega
theorem high_bit {hi lo : Int} (h0 : 0 ≤ lo) (h1 : lo < 18446744073709551616) (i : Nat) (hi' : 64 ≤ i) : hi / 2 ^ (i - 64) = (hi * 18446744073709551616 + lo) / 2 ^ i := by
  have e : (2 : Int) ^ i = 18446744073709551616 * 2 ^ (i - 64) := by
    rw [show (18446744073709551616 : Int) = 2 ^ 64 from rfl, ← Int.pow_add, show 64 + (i - 64) = i from by omega]
  rw [e, ← Int.ediv_ediv_of_nonneg (by omega)]
  congr 1
  omega
section
variable {F : Mem} {K : Own} {L : Slots}
theorem suA {t t' : TypeId} {x y : Operand} {a b : Int} (hx : evO L x = some (.int .u64 a) := by rfl) (hy : evO L y = some (.int .u64 b) := by rfl) (h0 : 0 ≤ a + b := by omega) (h1 : a + b < 18446744073709551616 := by omega) : SD Try.prog F K L (.binOp .add t x y t') (.int .u64 (a + b)) :=
  (O (by simp [dOp, dBin, hx, hy, IntKind.wrap_i64, wraps_u64 _ h0 h1] : dOp Θ (evO L) (.binOp .add t x y t') = some (.int .u64 (a + b))))
theorem suS {t t' : TypeId} {x y : Operand} {a b : Int} (hx : evO L x = some (.int .u64 a) := by rfl) (hy : evO L y = some (.int .u64 b) := by rfl) (h0 : 0 ≤ a - b := by omega) (h1 : a - b < 18446744073709551616 := by omega) : SD Try.prog F K L (.binOp .sub t x y t') (.int .u64 (a - b)) :=
  (O (by simp [dOp, dBin, hx, hy, wraps_u64 _ h0 h1] : dOp Θ (evO L) (.binOp .sub t x y t') = some (.int .u64 (a - b))))
theorem suM {t t' : TypeId} {x y : Operand} {a b : Int} (hx : evO L x = some (.int .u64 a) := by rfl) (hy : evO L y = some (.int .u64 b) := by rfl) (h0 : 0 ≤ a * b := by omega) (h1 : a * b < 18446744073709551616 := by omega) : SD Try.prog F K L (.binOp .mul t x y t') (.int .u64 (a * b)) :=
  (O (by simp [dOp, dBin, hx, hy, wraps_u64 _ h0 h1] : dOp Θ (evO L) (.binOp .mul t x y t') = some (.int .u64 (a * b))))
theorem sbAnd {t t' : TypeId} {x y : Operand} {k : IntKind} {a b v : Int} (h : Go.bits .and k a b = v) (hx : evO L x = some (.int k a) := by rfl) (hy : evO L y = some (.int k b) := by rfl) : SD Try.prog F K L (.binOp .and t x y t') (.int k v) := by
  subst h
  exact O (by simp [dOp, dBin, hx, hy, Go.bits])
theorem sbOr {t t' : TypeId} {x y : Operand} {k : IntKind} {a b v : Int} (h : Go.bits .or k a b = v) (hx : evO L x = some (.int k a) := by rfl) (hy : evO L y = some (.int k b) := by rfl) : SD Try.prog F K L (.binOp .or t x y t') (.int k v) := by
  subst h
  exact O (by simp [dOp, dBin, hx, hy, Go.bits])
theorem suAnd32 {t t' : TypeId} {x y : Operand} {a : Int} (hx : evO L x = some (.int .u64 a) := by rfl) (hy : evO L y = some (.int .u64 4294967295) := by rfl) (h0 : 0 ≤ a := by omega) (h1 : a < 18446744073709551616 := by omega) : SD Try.prog F K L (.binOp .and t x y t') (.int .u64 (a % 4294967296)) := sbAnd (u64_and32 a h0 h1) hx hy
theorem suAnd1 {t t' : TypeId} {x y : Operand} {a : Int} (hx : evO L x = some (.int .u64 a) := by rfl) (hy : evO L y = some (.int .u64 1) := by rfl) (h0 : 0 ≤ a := by omega) (h1 : a < 18446744073709551616 := by omega) : SD Try.prog F K L (.binOp .and t x y t') (.int .u64 (a % 2)) := sbAnd (u64_and1 a h0 h1) hx hy
theorem suOr32 {t t' : TypeId} {x y : Operand} {a b : Int} (hx : evO L x = some (.int .u64 a) := by rfl) (hy : evO L y = some (.int .u64 b) := by rfl) (h0 : 0 ≤ a := by omega) (hm : a % 4294967296 = 0 := by omega) (h1 : a < 18446744073709551616 := by omega) (h2 : 0 ≤ b := by omega) (h3 : b < 4294967296 := by omega) : SD Try.prog F K L (.binOp .or t x y t') (.int .u64 (a + b)) := sbOr (u64_or32 a b h0 hm h1 h2 h3) hx hy
theorem suOr1 {t t' : TypeId} {x y : Operand} {a b : Int} (hx : evO L x = some (.int .u64 a) := by rfl) (hy : evO L y = some (.int .u64 b) := by rfl) (h0 : 0 ≤ a := by omega) (hm : a % 2 = 0 := by omega) (h1 : a < 18446744073709551616 := by omega) (h2 : 0 ≤ b := by omega) (h3 : b < 2 := by omega) : SD Try.prog F K L (.binOp .or t x y t') (.int .u64 (a + b)) := sbOr (u64_or1 a b h0 hm h1 h2 h3) hx hy
/-- shifts by so many places -/
theorem suShr {t t' : TypeId} {x y : Operand} {k j : IntKind} {a b v : Int} (n : Nat) (hv : a / 2 ^ n = v) (hx : evO L x = some (.int k a) := by rfl) (hy : evO L y = some (.int j b) := by rfl) (hb : b = n := by first | rfl | omega) (hn : n ≤ k.bits := by decide) : SD Try.prog F K L (.binOp .shr t x y t') (.int k v) := by
  subst hb hv
  have := SD.shrK (P := Try.prog) (F := F) (K := K) (t := t) (t' := t') hx hy (by omega)
  rw [show min ((n : Int)).toNat k.bits = n from by simp; omega, Int.fdiv_eq_ediv_of_nonneg _ (Int.le_of_lt (Int.pow_pos (by decide)))] at this
  exact this
theorem suShl {t t' : TypeId} {x y : Operand} {j : IntKind} {a b v : Int} (n : Nat) (hv : a * 2 ^ n % 18446744073709551616 = v) (hx : evO L x = some (.int .u64 a) := by rfl) (hy : evO L y = some (.int j b) := by rfl) (hb : b = n := by first | rfl | omega) (hn : n ≤ 64 := by decide) : SD Try.prog F K L (.binOp .shl t x y t') (.int .u64 v) := by
  subst hb hv
  have := SD.shlK (P := Try.prog) (F := F) (K := K) (t := t) (t' := t') hx hy (by omega)
  rw [show min ((n : Int)).toNat (IntKind.bits .u64) = n from by simp [IntKind.bits]; omega, wrapu] at this
  exact this
theorem suShr32 {t t' : TypeId} {x y : Operand} {j : IntKind} {a : Int} (hx : evO L x = some (.int .u64 a) := by rfl) (hy : evO L y = some (.int j 32) := by rfl) : SD Try.prog F K L (.binOp .shr t x y t') (.int .u64 (a / 4294967296)) := suShr 32 rfl hx hy
theorem suShl32 {t t' : TypeId} {x y : Operand} {j : IntKind} {a : Int} (hx : evO L x = some (.int .u64 a) := by rfl) (hy : evO L y = some (.int j 32) := by rfl) : SD Try.prog F K L (.binOp .shl t x y t') (.int .u64 (a * 4294967296 % 18446744073709551616)) := suShl 32 rfl hx hy
theorem suShr63 {t t' : TypeId} {x y : Operand} {j : IntKind} {a : Int} (hx : evO L x = some (.int .u64 a) := by rfl) (hy : evO L y = some (.int j 63) := by rfl) : SD Try.prog F K L (.binOp .shr t x y t') (.int .u64 (a / 9223372036854775808)) := suShr 63 rfl hx hy
theorem suShl1 {t t' : TypeId} {x y : Operand} {j : IntKind} {a : Int} (hx : evO L x = some (.int .u64 a) := by rfl) (hy : evO L y = some (.int j 1) := by rfl) : SD Try.prog F K L (.binOp .shl t x y t') (.int .u64 (a * 2 % 18446744073709551616)) := suShl 1 rfl hx hy
theorem si63 {t t' : TypeId} {x y : Operand} {a : Int} (hx : evO L x = some (.int .i64 a) := by rfl) (hy : evO L y = some (.int .i64 63) := by rfl) (h0 : 0 ≤ a := by omega) (h1 : a < 9223372036854775808 := by omega) : SD Try.prog F K L (.binOp .and t x y t') (.int .i64 (a % 64)) := sbAnd (i64_and63 a h0 h1) hx hy
/-- an int as another kind that holds it -/
theorem suC {s d : TypeId} {x : Operand} {i j : Ty} {k k' : IntKind} {a : Int} (hi : Θ.lookup s = some i := by rfl) (hj : Θ.lookup d = some j := by rfl) (hk : i.k = .int k := by rfl) (hk' : j.k = .int k' := by rfl) (hx : evO L x = some (.int k a) := by rfl) (hw : k'.wrap a = a := by first | exact wraps_u64 _ (by omega) (by omega) | exact wrap_i64 (by omega) (by omega)) : SD Try.prog F K L (.convert s d x) (.int k' a) := by
  refine O ?_
  simp [dOp, hi, hj, hx, hk, hk', dConv, hw]
end
section
variable {F : Mem} {K : Own} {L : Slots}
theorem und_bool {t : TypeId} {ti : Ty} (ht : Θ.lookup t = some ti) (hk : ti.k = .bool) : Try.prog.underlying t = some .bool := by
  obtain ⟨d, hd, hkd⟩ := (tab_ty hT ht).und
  rw [hk] at hkd
  cases d <;> first | exact hd | (simp [kindB] at hkd; done)
theorem sbEq {t t' : TypeId} {x y : Operand} {ti : Ty} {a b : Bool} (ht : Θ.lookup t = some ti := by rfl) (hk : ti.k = .bool := by rfl) (hx : evO L x = some (.bool a) := by rfl) (hy : evO L y = some (.bool b) := by rfl) : SD Try.prog F K L (.binOp .eql t x y t') (.bool (a == b)) := by
  intro ι ρ he o' ho w _
  obtain ⟨dst, op, type, pos, after, guard⟩ := o'
  simp only at ho
  subst ho
  simp [execOp, he _ _ hx, he _ _ hy, binOp, eqGuard, run_equal_bool w t a b (und_bool ht hk)]
theorem sbNe {t t' : TypeId} {x y : Operand} {ti : Ty} {a b : Bool} (ht : Θ.lookup t = some ti := by rfl) (hk : ti.k = .bool := by rfl) (hx : evO L x = some (.bool a) := by rfl) (hy : evO L y = some (.bool b) := by rfl) : SD Try.prog F K L (.binOp .neq t x y t') (.bool (a != b)) := by
  intro ι ρ he o' ho w _
  obtain ⟨dst, op, type, pos, after, guard⟩ := o'
  simp only at ho
  subst ho
  simp [execOp, he _ _ hx, he _ _ hy, binOp, eqGuard, bne, run_equal_bool w t a b (und_bool ht hk)]
end
def i64ok (x : Int) : Prop := -9223372036854775808 ≤ x ∧ x ≤ 9223372036854775807
def amt (x : Int) : Int := if x < 0 then -x else x
theorem amt_bd {x : Int} (h : i64ok x) : 0 ≤ amt x ∧ amt x ≤ 9223372036854775808 := by unfold amt; unfold i64ok at h; split <;> omega
theorem mul_amt (a b : Int) : amt a * amt b = if (decide (a < 0) != decide (b < 0)) = true then -(a * b) else a * b := by
  unfold amt
  by_cases ha : a < 0 <;> by_cases hb : b < 0 <;> simp [ha, hb, Int.neg_mul, Int.mul_neg]
theorem prod_lt {a b : Int} (ha : i64ok a) (hb : i64ok b) : 0 ≤ amt a * amt b ∧ amt a * amt b ≤ 85070591730234615865843651857942052864 := by
  have h1 := amt_bd ha; have h2 := amt_bd hb
  constructor
  · exact Int.mul_nonneg h1.1 h2.1
  · have := Int.mul_le_mul h1.2 h2.2 h2.1 (by omega)
    omega
def keepS (x : Int) : Int × Bool := if -1099511627776 ≤ x ∧ x ≤ 1099511627776 then (x, true) else (0, false)
/-- the quotient, rounded down, if it is in -/
def floorS (a b c : Int) : Int × Bool := if c < 1 then (0, false) else keepS (a * b / c)
/-- the quotient, rounded to the nearest (of two, the greater), if it is in -/
def scaleS (a b c : Int) : Int × Bool := if c < 1 then (0, false) else keepS ((2 * (a * b) + c) / (2 * c))
end Go.Proofs.Ytfcckfiipbdnkaa.Am
namespace Go.Proofs.Ytfcckfiipbdnkaa.Am
set_option linter.unusedSimpArgs false
set_option linter.unusedVariables false
open Go Go.RowKit
/-! Own rows that are handed to the world; loops that leave rows; append of nothing. -/
section
variable {X : Cx} {F : Mem} {L : Slots} {K : Own} {s : List SI} {ops : Array Oper} {o : Oper} {l : List Oper}
abbrev PlainRows (Y : List (Nat × Row)) : Prop := ∀ x ∈ Y, ∀ u ∈ x.2.cs, plain1 u = true
theorem St.release {ι : Nat → Nat} {w : World} {t : Nat} {r : Row} (h : St F ι ((t, r) :: K) w) (hp : ∀ v ∈ r.cs, plain1 v = true) : St (F.add [(ι t, r)]) ι K w := by
  have hrc : r.c ι = r.c fun _ => 0 := Row.c_flat _ _ hp
  have h0 := h.own _ List.mem_cons_self
  refine ⟨h.below, ?_, fun x hx => h.own x (List.mem_cons_of_mem _ hx), fun x hx => ?_⟩
  · have := h.nodup
    simp only [Mem.add, List.map_cons, List.cons_append, List.nil_append] at this ⊢
    exact (List.Perm.nodup_iff List.perm_middle).2 this
  · rcases List.mem_cons.1 hx with rfl | hx
    · refine ⟨h0.1, ?_⟩
      have := h0.2.1
      rw [hrc] at this
      exact this
    · exact h.ext x hx
theorem JL.release {d t n c off : Nat} {r : Row} (Lk : Slots) (Kk : Own)
    (h : ∀ b, PlainRows [(b, r)] → New F [(b, r)] → JL X ops l s (F.add [(b, r)]) ((d, .slice (some ⟨b, off, none⟩) n c) :: Lk) Kk)
    (hd : L.lookup d = some (.slice (some ⟨t, off, some 0⟩) n c) := by rfl) (hr : K.lookup t = some r := by rfl) (hfl : (r.flat || r.cs.all plain1) = true := by rfl) (hLk : LSub Lk L := by repeat' first | exact trivial | refine And.intro rfl ?_) (hKk : KSub Kk K := by repeat' first | exact trivial | refine And.intro rfl ?_)
    (hKt : (Kk.all fun x => x.1 != t) = true := by rfl) (hdk : (Lk.all fun x => x.1 != d) = true := by rfl) : JL X ops l s F L K := by
  intro ι a w hF hS
  have hp : ∀ v ∈ r.cs, plain1 v = true := by
    simp only [Bool.or_eq_true] at hfl
    rcases hfl with hfl | hfl
    · exact (hS.own _ (lookup_mem hr)).2.2 hfl
    · exact List.all_eq_true.1 hfl
  have hS1 : St F ι ((t, r) :: Kk) w := hS.weak ⟨hr, hKt, hKk⟩
  have hS2 := hS1.release hp
  have hpr : PlainRows [(ι t, r)] := fun x hx => by rw [List.mem_singleton.1 hx]; exact hp
  refine h (ι t) hpr (hS2.new_ hpr) ι a w ?_ hS2
  refine ⟨hF.size, hF.defers, fun s v hv => ?_⟩
  rw [List.lookup_cons] at hv
  split at hv
  · rename_i e
    have e1 : s = d := by simpa using e
    subst e1
    simp only [Option.some.injEq] at hv
    subst hv
    have := hF.slot s _ hd
    simpa using this
  · exact hF.slot s v (hLk.get s v hv)
theorem J.useNew {c : Code} {Y : List (Nat × Row)} (hp : PlainRows Y) (h : New F Y → J X (.code c :: s) (F.add Y) L K) : J X (.code c :: s) (F.add Y) L K := fun ι a w hF hS => h (hS.new_ hp) ι a w hF hS
theorem add_add (F : Mem) (Y Z : List (Nat × Row)) : (F.add Y).add Z = F.add (Z ++ Y) := by simp [Mem.add]
theorem Rd.app_left {G : Mem} {Y Z : List (Nat × Row)} (h : Rd G (Z ++ Y)) : Rd G Z := fun x hx => h x (List.mem_append_left _ hx)
theorem Rd.app_right {G : Mem} {Y Z : List (Nat × Row)} (h : Rd G (Z ++ Y)) : Rd G Y := fun x hx => h x (List.mem_append_right _ hx)
theorem PlainRows.app {Y Z : List (Nat × Row)} (hy : PlainRows Y) (hz : PlainRows Z) : PlainRows (Z ++ Y) := fun x hx => by
  rcases List.mem_append.1 hx with hx | hx
  · exact hz x hx
  · exact hy x hx
theorem PlainRows.nil : PlainRows [] := fun x hx => by cases hx
/-- a literal slice behind a guard -/
theorem slg {Θ : Tab} {ty el : TypeId} {parts : Array (Nat × Operand)} {d n j e : Nat} {want : Bool} {ti tj : Ty} {ps : List (Nat × List Value)} {cs : List Value} (hk : JL X ops l s F ((d, .slice (some ⟨d, 0, some 0⟩) n n) :: L) ((d, { elem := el, cs := cs, room := n * tj.size, flat := false }) :: K))
    (hg : o.guard = some (j, want) := by rfl) (hj' : (ops[j]?).bind (·.dst) = some e := by rfl) (hb : L.lookup e = some (.bool want) := by rfl) (ho : o.op = .buildSlice ty n parts := by rfl) (hd : o.dst = some d := by rfl) (hN : d < X.N := by exact Nat.le_of_ble_eq_true rfl) (hθ : tabOk X.P Θ = true := by exact hT) (hi : Θ.lookup ty = some ti := by rfl) (hki : ti.k = .slice el := by rfl) (hj : Θ.lookup el = some tj := by rfl)
    (hp : partsL (evO L) parts.toList = some ps := by rfl) (h1 : ps.all (fun q => q.2.all (·.oneCell')) = true := by rfl) (hf : fillL (fun i => some (i * tj.size, tj.size)) (zer tj n) ps = some cs := by rfl) (hs : n * tj.size ≤ 16777216 := by exact Nat.le_of_ble_eq_true rfl) (hz0 : tj.zero.length = tj.size := by rfl) (hz1 : 0 < tj.size := by exact Nat.le_of_ble_eq_true rfl)
    (hL : ntL d L = true := by rfl) (hK : ntK d K = true := by rfl) (hD : X.D.contains d = false := by rfl) : JL X ops (o :: l) s F L K :=
  JL.stepG hg hj' hb (Go1.slit hθ ho hd hN hi hki hj hp h1 hf hs hz0 hz1 hL hK hD hk)
/-- append of nothing to an own row -/
theorem ap0 {Θ : Tab} {ty ty' el : TypeId} {sx x : Operand} {d n c u : Nat} {ti ti' tj : Ty} {xv : Value} (hk : JL X ops l s F ((d, .slice (some ⟨u, 0, some 0⟩) n c) :: L) K)
    (hg : o.guard = none := by rfl) (ho : o.op = .call ⟨.builtin .append, #[sx, x], #[ty, ty']⟩ := by rfl) (hd : o.dst = some d := by rfl) (hN : d < X.N := by exact Nat.le_of_ble_eq_true rfl) (hθ : tabOk X.P Θ = true := by exact hT)
    (hi : Θ.lookup ty = some ti := by rfl) (hki : ti.k = .slice el := by rfl) (hi' : Θ.lookup ty' = some ti' := by rfl) (hk' : slB ti'.k = true := by rfl) (hj : Θ.lookup el = some tj := by rfl)
    (hs : evO L sx = some (.slice (some ⟨u, 0, some 0⟩) n c) := by rfl) (hx : evO L x = some xv := by rfl) (happ : App X.P F K tj.size xv 0 [] := by first | exact App.nil _ _ | exact App.slice rfl (by simp) (by simp)) (hnc : n ≤ c := by first | exact Nat.le_of_ble_eq_true rfl | omega) : JL X ops (o :: l) s F L K := by
  refine JL.step hg ?_
  intro ι a w hF hS
  have tye := tab_ty hθ hj
  obtain ⟨dd, hdd, hkd⟩ := (tab_ty hθ hi).und
  rw [hki] at hkd
  cases dd <;> try (simp [kindB] at hkd; done)
  simp only [kindB, beq_iff_eq] at hkd
  subst hkd
  rename_i el
  obtain ⟨d', hdd', hkd'⟩ := (tab_ty hθ hi').und
  have hd' : ∀ k, d' ≠ .int k := by
    intro k e
    subst e
    cases hq : ti'.k <;> rw [hq] at hk' hkd' <;> first | (simp [slB] at hk'; done) | simp [kindB] at hkd'
  have hlen := happ.lenOf ι w
  have hc0 := happ.cells ι w hS
  have hrun := run_append_in (ty := o.type) (a := ⟨ι u, 0, none⟩) (n := n) (c := c) (xv := cV ι xv) (w' := w) hdd hdd' hd' (tye.run_size w) hlen hc0 (by omega) (by simp [storeCells])
  refine ⟨ι, w, cV ι (.slice (some ⟨u, 0, some 0⟩) n c), F, _, K, .inl ?_, by rw [hd]; exact hF.put hN _, hS, fun _ _ => rfl, hk⟩
  obtain ⟨dst, op, type, pos, after, guard⟩ := o
  simp only at ho hrun
  subst ho
  have e1 := hF.ev hs
  have e2 := hF.ev hx
  simp only [cV_slice, cA_own] at e1
  simp only [execOp, resolve, Sem.run_bind, Sem.run_pure, Result.andThen_ok, invoke, builtin]
  simp only [List.map_toArray, List.map_cons, List.map_nil, e1, e2, hrun, Result.andThen_ok, Sem.run_pure, cV_slice, cA_own, Nat.add_zero]

theorem J.gloop1 {c : Code} {α : Type} (ok : List (Nat × Row) → α → Prop) (Lf : α → Slots) (kp : Slots) (Kf : α → Own) (kk : Own) (μ : α → Nat) (x0 : α) (hL : LSub (Lf x0) L) (hk : LSub kp L) (hK : KSub (Kf x0 ++ kk) K) (h0 : ok [] x0)
    (round : ∀ Y x L1 K1, L1 = Lf x ++ kp → K1 = Kf x ++ kk → ok Y x → PlainRows Y → New F Y → J X (.code c :: .back (fun F' L' K' => ∃ Y' x', μ x' < μ x ∧ ok Y' x' ∧ PlainRows Y' ∧ F' = F.add Y' ∧ LSub (Lf x') L' ∧ LSub kp L' ∧ KSub (Kf x' ++ kk) K') :: s) (F.add Y) L1 K1) : J X (.code (.loop c) :: s) F L K :=
  J.loop (α := List (Nat × Row) × α) (fun p F' L' K' => ok p.1 p.2 ∧ PlainRows p.1 ∧ F' = F.add p.1 ∧ LSub (Lf p.2 ++ kp) L' ∧ KSub (Kf p.2 ++ kk) K') (fun p => μ p.2) ([], x0) ⟨h0, PlainRows.nil, rfl, hL.app hk, hK⟩ (by
    rintro ⟨Y, x⟩ F' L' K' ⟨h1, hp, rfl, h2, h3⟩
    refine WP.weak h2 h3 ?_
    intro ι a w hF hS
    refine wp_mono (round Y x _ _ rfl rfl h1 hp (hS.new_ hp) ι a w hF hS) fun e a' w' hl => ?_
    obtain ⟨ι1, F1, L1, K1, g1, g2, g3, g4⟩ := hl
    refine ⟨ι1, F1, L1, K1, g1, g2, g3, ?_⟩
    cases e with
    | normal =>
      obtain ⟨Y', x', q1, q2, q7, q3, q4, q5, q6⟩ := g4
      exact ⟨⟨Y', x'⟩, q1, q2, q7, q3, q4.app q5, q6⟩
    | _ => exact g4)
theorem gbk1 {α : Type} {F0 : Mem} {ok : List (Nat × Row) → α → Prop} {Lf : α → Slots} {kp : Slots} {Kf : α → Own} {kk : Own} {μ : α → Nat} {m : Nat} (Y' : List (Nat × Row)) (x' : α) (hL : LSub (Lf x') L) (hk : LSub kp L) (hK : KSub (Kf x' ++ kk) K) (hFe : F = F0.add Y') (hp : PlainRows Y') (hμ : μ x' < m) (hok : ok Y' x') :
    J X (.back (fun F' L' K' => ∃ Y' x', μ x' < m ∧ ok Y' x' ∧ PlainRows Y' ∧ F' = F0.add Y' ∧ LSub (Lf x') L' ∧ LSub kp L' ∧ KSub (Kf x' ++ kk) K') :: s) F L K := ⟨Y', x', hμ, hok, hp, hFe, hL, hk, hK⟩
theorem J.gloop2 {c : Code} {α β : Type} (ok : List (Nat × Row) → α → β → Prop) (Lf : α → β → Slots) (kp : Slots) (Kf : α → β → Own) (kk : Own) (μ : α → β → Nat) (x0 : α) (y0 : β) (hL : LSub (Lf x0 y0) L) (hk : LSub kp L) (hK : KSub (Kf x0 y0 ++ kk) K) (h0 : ok [] x0 y0)
    (round : ∀ Y x y L1 K1, L1 = Lf x y ++ kp → K1 = Kf x y ++ kk → ok Y x y → PlainRows Y → New F Y → J X (.code c :: .back (fun F' L' K' => ∃ Y' x' y', μ x' y' < μ x y ∧ ok Y' x' y' ∧ PlainRows Y' ∧ F' = F.add Y' ∧ LSub (Lf x' y') L' ∧ LSub kp L' ∧ KSub (Kf x' y' ++ kk) K') :: s) (F.add Y) L1 K1) : J X (.code (.loop c) :: s) F L K :=
  J.loop (α := List (Nat × Row) × α × β) (fun p F' L' K' => ok p.1 p.2.1 p.2.2 ∧ PlainRows p.1 ∧ F' = F.add p.1 ∧ LSub (Lf p.2.1 p.2.2 ++ kp) L' ∧ KSub (Kf p.2.1 p.2.2 ++ kk) K') (fun p => μ p.2.1 p.2.2) ([], x0, y0) ⟨h0, PlainRows.nil, rfl, hL.app hk, hK⟩ (by
    rintro ⟨Y, x, y⟩ F' L' K' ⟨h1, hp, rfl, h2, h3⟩
    refine WP.weak h2 h3 ?_
    intro ι a w hF hS
    refine wp_mono (round Y x y _ _ rfl rfl h1 hp (hS.new_ hp) ι a w hF hS) fun e a' w' hl => ?_
    obtain ⟨ι1, F1, L1, K1, g1, g2, g3, g4⟩ := hl
    refine ⟨ι1, F1, L1, K1, g1, g2, g3, ?_⟩
    cases e with
    | normal =>
      obtain ⟨Y', x', y', q1, q2, q7, q3, q4, q5, q6⟩ := g4
      exact ⟨⟨Y', x', y'⟩, q1, q2, q7, q3, q4.app q5, q6⟩
    | _ => exact g4)
theorem gbk2 {α β : Type} {F0 : Mem} {ok : List (Nat × Row) → α → β → Prop} {Lf : α → β → Slots} {kp : Slots} {Kf : α → β → Own} {kk : Own} {μ : α → β → Nat} {m : Nat} (Y' : List (Nat × Row)) (x' : α) (y' : β) (hL : LSub (Lf x' y') L) (hk : LSub kp L) (hK : KSub (Kf x' y' ++ kk) K) (hFe : F = F0.add Y') (hp : PlainRows Y') (hμ : μ x' y' < m) (hok : ok Y' x' y') :
    J X (.back (fun F' L' K' => ∃ Y' x' y', μ x' y' < m ∧ ok Y' x' y' ∧ PlainRows Y' ∧ F' = F0.add Y' ∧ LSub (Lf x' y') L' ∧ LSub kp L' ∧ KSub (Kf x' y' ++ kk) K') :: s) F L K := ⟨Y', x', y', hμ, hok, hp, hFe, hL, hk, hK⟩
theorem J.gloop3 {c : Code} {α β γ : Type} (ok : List (Nat × Row) → α → β → γ → Prop) (Lf : α → β → γ → Slots) (kp : Slots) (Kf : α → β → γ → Own) (kk : Own) (μ : α → β → γ → Nat) (x0 : α) (y0 : β) (z0 : γ) (hL : LSub (Lf x0 y0 z0) L) (hk : LSub kp L) (hK : KSub (Kf x0 y0 z0 ++ kk) K) (h0 : ok [] x0 y0 z0)
    (round : ∀ Y x y z L1 K1, L1 = Lf x y z ++ kp → K1 = Kf x y z ++ kk → ok Y x y z → PlainRows Y → New F Y → J X (.code c :: .back (fun F' L' K' => ∃ Y' x' y' z', μ x' y' z' < μ x y z ∧ ok Y' x' y' z' ∧ PlainRows Y' ∧ F' = F.add Y' ∧ LSub (Lf x' y' z') L' ∧ LSub kp L' ∧ KSub (Kf x' y' z' ++ kk) K') :: s) (F.add Y) L1 K1) : J X (.code (.loop c) :: s) F L K :=
  J.loop (α := List (Nat × Row) × α × β × γ) (fun p F' L' K' => ok p.1 p.2.1 p.2.2.1 p.2.2.2 ∧ PlainRows p.1 ∧ F' = F.add p.1 ∧ LSub (Lf p.2.1 p.2.2.1 p.2.2.2 ++ kp) L' ∧ KSub (Kf p.2.1 p.2.2.1 p.2.2.2 ++ kk) K') (fun p => μ p.2.1 p.2.2.1 p.2.2.2) ([], x0, y0, z0) ⟨h0, PlainRows.nil, rfl, hL.app hk, hK⟩ (by
    rintro ⟨Y, x, y, z⟩ F' L' K' ⟨h1, hp, rfl, h2, h3⟩
    refine WP.weak h2 h3 ?_
    intro ι a w hF hS
    refine wp_mono (round Y x y z _ _ rfl rfl h1 hp (hS.new_ hp) ι a w hF hS) fun e a' w' hl => ?_
    obtain ⟨ι1, F1, L1, K1, g1, g2, g3, g4⟩ := hl
    refine ⟨ι1, F1, L1, K1, g1, g2, g3, ?_⟩
    cases e with
    | normal =>
      obtain ⟨Y', x', y', z', q1, q2, q7, q3, q4, q5, q6⟩ := g4
      exact ⟨⟨Y', x', y', z'⟩, q1, q2, q7, q3, q4.app q5, q6⟩
    | _ => exact g4)
theorem gbk3 {α β γ : Type} {F0 : Mem} {ok : List (Nat × Row) → α → β → γ → Prop} {Lf : α → β → γ → Slots} {kp : Slots} {Kf : α → β → γ → Own} {kk : Own} {μ : α → β → γ → Nat} {m : Nat} (Y' : List (Nat × Row)) (x' : α) (y' : β) (z' : γ) (hL : LSub (Lf x' y' z') L) (hk : LSub kp L) (hK : KSub (Kf x' y' z' ++ kk) K) (hFe : F = F0.add Y') (hp : PlainRows Y') (hμ : μ x' y' z' < m) (hok : ok Y' x' y' z') :
    J X (.back (fun F' L' K' => ∃ Y' x' y' z', μ x' y' z' < m ∧ ok Y' x' y' z' ∧ PlainRows Y' ∧ F' = F0.add Y' ∧ LSub (Lf x' y' z') L' ∧ LSub kp L' ∧ KSub (Kf x' y' z' ++ kk) K') :: s) F L K := ⟨Y', x', y', z', hμ, hok, hp, hFe, hL, hk, hK⟩
theorem J.gloop4 {c : Code} {α β γ δ : Type} (ok : List (Nat × Row) → α → β → γ → δ → Prop) (Lf : α → β → γ → δ → Slots) (kp : Slots) (Kf : α → β → γ → δ → Own) (kk : Own) (μ : α → β → γ → δ → Nat) (x0 : α) (y0 : β) (z0 : γ) (u0 : δ) (hL : LSub (Lf x0 y0 z0 u0) L) (hk : LSub kp L) (hK : KSub (Kf x0 y0 z0 u0 ++ kk) K) (h0 : ok [] x0 y0 z0 u0)
    (round : ∀ Y x y z u L1 K1, L1 = Lf x y z u ++ kp → K1 = Kf x y z u ++ kk → ok Y x y z u → PlainRows Y → New F Y → J X (.code c :: .back (fun F' L' K' => ∃ Y' x' y' z' u', μ x' y' z' u' < μ x y z u ∧ ok Y' x' y' z' u' ∧ PlainRows Y' ∧ F' = F.add Y' ∧ LSub (Lf x' y' z' u') L' ∧ LSub kp L' ∧ KSub (Kf x' y' z' u' ++ kk) K') :: s) (F.add Y) L1 K1) : J X (.code (.loop c) :: s) F L K :=
  J.loop (α := List (Nat × Row) × α × β × γ × δ) (fun p F' L' K' => ok p.1 p.2.1 p.2.2.1 p.2.2.2.1 p.2.2.2.2 ∧ PlainRows p.1 ∧ F' = F.add p.1 ∧ LSub (Lf p.2.1 p.2.2.1 p.2.2.2.1 p.2.2.2.2 ++ kp) L' ∧ KSub (Kf p.2.1 p.2.2.1 p.2.2.2.1 p.2.2.2.2 ++ kk) K') (fun p => μ p.2.1 p.2.2.1 p.2.2.2.1 p.2.2.2.2) ([], x0, y0, z0, u0) ⟨h0, PlainRows.nil, rfl, hL.app hk, hK⟩ (by
    rintro ⟨Y, x, y, z, u⟩ F' L' K' ⟨h1, hp, rfl, h2, h3⟩
    refine WP.weak h2 h3 ?_
    intro ι a w hF hS
    refine wp_mono (round Y x y z u _ _ rfl rfl h1 hp (hS.new_ hp) ι a w hF hS) fun e a' w' hl => ?_
    obtain ⟨ι1, F1, L1, K1, g1, g2, g3, g4⟩ := hl
    refine ⟨ι1, F1, L1, K1, g1, g2, g3, ?_⟩
    cases e with
    | normal =>
      obtain ⟨Y', x', y', z', u', q1, q2, q7, q3, q4, q5, q6⟩ := g4
      exact ⟨⟨Y', x', y', z', u'⟩, q1, q2, q7, q3, q4.app q5, q6⟩
    | _ => exact g4)
theorem gbk4 {α β γ δ : Type} {F0 : Mem} {ok : List (Nat × Row) → α → β → γ → δ → Prop} {Lf : α → β → γ → δ → Slots} {kp : Slots} {Kf : α → β → γ → δ → Own} {kk : Own} {μ : α → β → γ → δ → Nat} {m : Nat} (Y' : List (Nat × Row)) (x' : α) (y' : β) (z' : γ) (u' : δ) (hL : LSub (Lf x' y' z' u') L) (hk : LSub kp L) (hK : KSub (Kf x' y' z' u' ++ kk) K) (hFe : F = F0.add Y') (hp : PlainRows Y') (hμ : μ x' y' z' u' < m) (hok : ok Y' x' y' z' u') :
    J X (.back (fun F' L' K' => ∃ Y' x' y' z' u', μ x' y' z' u' < m ∧ ok Y' x' y' z' u' ∧ PlainRows Y' ∧ F' = F0.add Y' ∧ LSub (Lf x' y' z' u') L' ∧ LSub kp L' ∧ KSub (Kf x' y' z' u' ++ kk) K') :: s) F L K := ⟨Y', x', y', z', u', hμ, hok, hp, hFe, hL, hk, hK⟩
end
section
variable {F : Mem} {K : Own} {L : Slots}
theorem sdCutH {t el : TypeId} {x y : Operand} {b off n c : Nat} {sp : Option Nat} {k : IntKind} {h : Int} {ti tj : Ty} (ht : Θ.lookup t = some ti := by rfl) (hk : ti.k = .slice el := by rfl) (hj : Θ.lookup el = some tj := by rfl) (hx : evO L x = some (.slice (some ⟨b, off, sp⟩) n c) := by rfl) (hy : evO L y = some (.int k h) := by rfl) (h0 : 0 ≤ h := by omega) (h1 : h.toNat ≤ c := by omega) :
    SD Try.prog F K L (.slice t x none (some y) none) (.slice (some ⟨b, off, sp⟩) h.toNat c) := by
  have := SD.cutS (P := Try.prog) (F := F) (K := K) (L := L) hT ht hk hj hx (lo := none) (hi := some y) (l := 0) (h := h.toNat) rfl ⟨k, by rw [hy]; congr 2; omega⟩ (Nat.zero_le _) h1
  simpa [addA_zero] using this
end
section
variable {F : Mem} {L : Slots} {K : Own} {s : List SI}
/-- the end: all of the call's own rows are left, and those that were handed over -/
theorem outX.allY {Q : Value → List (Nat × Row) → Prop} {v : Value} {Y : List (Nat × Row)} (hp : PlainRows Y) (h : ∀ ι, Val ι K (F.add Y) → Q (rV ι v) ((K.map fun x => (ι x.1, x.2.r ι)) ++ Y)) : outX F Q v (F.add Y) K :=
  ⟨Y, rfl, hp, fun ι hv => ⟨(K.map fun x => (ι x.1, x.2.r ι)) ++ Y, fun x hx => hx, by
    have := hv.nodup
    simp only [Mem.add, List.map_append] at this
    rw [← List.append_assoc] at this
    have := (List.nodup_append.1 this).1
    simpa [List.map_map, Function.comp_def] using this, h ι hv⟩⟩
theorem rtY {Θ : Tab} {rs : List ResultVar} {Q : Value → List (Nat × Row) → Prop} {v : Value} {P : Program} {N : Nat} {D : List Nat} {Y : List (Nat × Row)} (hp : PlainRows Y) (h : ∀ ι, Val ι K (F.add Y) → Q (rV ι v) ((K.map fun x => (ι x.1, x.2.r ι)) ++ Y)) (hr : resV Θ (F.add Y) L K rs = some v := by rfl) : J ⟨P, N, D, retR Θ rs (outX F Q)⟩ (.code .ret :: s) (F.add Y) L K := J.ret ⟨v, hr, outX.allY hp h⟩
theorem reY {Θ : Tab} {rs : List ResultVar} {Q : Value → List (Nat × Row) → Prop} {v : Value} {P : Program} {N : Nat} {D : List Nat} {Y : List (Nat × Row)} (hp : PlainRows Y) (h : ∀ ι, Val ι K (F.add Y) → Q (rV ι v) ((K.map fun x => (ι x.1, x.2.r ι)) ++ Y)) (hr : resV Θ (F.add Y) L K rs = some v := by rfl) : J ⟨P, N, D, retR Θ rs (outX F Q)⟩ [] (F.add Y) L K := ⟨v, hr, outX.allY hp h⟩
end
/-! Rows of several cells an element. -/
theorem flat_at {xs : List (List Value)} {sz i j : Nat} (h : ∀ x ∈ xs, x.length = sz) (hj : j < sz) : xs.flatten[i * sz + j]? = (xs[i]?).bind (·[j]?) := by
  induction xs generalizing i with
  | nil => simp
  | cons x xs ih =>
    have hx := h x List.mem_cons_self
    rw [List.flatten_cons]
    cases i with
    | zero =>
      rw [Nat.zero_mul, Nat.zero_add, List.getElem?_append_left (by omega)]
      simp
    | succ i =>
      rw [List.getElem?_append_right (by rw [Nat.add_mul]; omega), show (i + 1) * sz + j - x.length = i * sz + j from by rw [Nat.add_mul]; omega, ih (fun y hy => h y (List.mem_cons_of_mem _ hy))]
      simp
theorem lookN_of {F : Mem} {a : Addr} : ∀ {cs : List Value}, (∀ j v, cs[j]? = some v → look F (addA a j) = some v) → lookN F a cs.length = some cs := by
  intro cs
  induction cs generalizing a with
  | nil => intro _; rfl
  | cons v cs ih =>
    intro h
    have h0 := h 0 v rfl
    rw [addA_zero] at h0
    have h1 := ih (a := addA a 1) (fun j u hj => by
      have := h (j + 1) u (by simpa using hj)
      rw [← this, addA_addA, Nat.add_comm 1 j])
    simp only [List.length_cons, lookN]
    rw [show look F a = some v from h0, h1]
theorem lookN_ints {F : Mem} {b off : Nat} {xs : List Int} (h : ∀ i x, xs[i]? = some x → look F ⟨b, off + i, none⟩ = some (.int .i64 x)) : lookN F ⟨b, off, none⟩ xs.length = some (ivs xs) := by
  have := lookN_of (F := F) (a := ⟨b, off, none⟩) (cs := ivs xs) (fun j v hv => by
    unfold ivs at hv
    rw [List.getElem?_map] at hv
    cases hx : xs[j]? with
    | none => simp [hx] at hv
    | some x =>
      simp only [hx, Option.map_some, Option.some.injEq] at hv
      subst hv
      exact h j x hx)
  rwa [ivs_length] at this

end Go.Proofs.Ytfcckfiipbdnkaa.Am
namespace Go.Proofs.Ytfcckfiipbdnkaa.Am
set_option linter.unusedSimpArgs false
set_option linter.unusedVariables false
open Go Go.RowKit
/-! What is handed in, told by what is read of it. -/
section
variable {H : Type} {enc : TypeId × Value → H} {P : Program} {W : World}
theorem cell_lt {a : Addr} {u : Value} (h : W.cell? a = some u) : a.block < W.heap.size ∧ a.spot = none := by
  unfold World.cell? at h
  split at h
  · rename_i c e f hb
    split at h
    · simp at h
    · rename_i hs
      refine ⟨(Array.getElem?_eq_some_iff.1 hb).1, ?_⟩
      simpa using hs
  · simp at h
theorem look_w {a : Addr} {u : Value} (h : W.cell? a = some u) (hp : plain1 (e1 u) = true) : look ⟨W, []⟩ a = some (e1 u) := by
  have := (cell_lt h).1
  simp only [look, this, if_true, h, Option.map_some, Option.bind_some, hp]
theorem pick_list {β : Type} {Q : Nat → β → Prop} : ∀ (n : Nat), (∀ i, i < n → ∃ x, Q i x) → ∃ xs : List β, xs.length = n ∧ ∀ i x, xs[i]? = some x → Q i x := by
  intro n
  induction n with
  | zero => intro _; exact ⟨[], rfl, fun i x h => by simp at h⟩
  | succ n ih =>
    intro h
    obtain ⟨xs, hl, hx⟩ := ih (fun i hi => h i (by omega))
    obtain ⟨x, hq⟩ := h n (by omega)
    refine ⟨xs ++ [x], by simp [hl], fun i y hy => ?_⟩
    by_cases hi : i < n
    · rw [List.getElem?_append_left (by omega)] at hy; exact hx i y hy
    · have hi2 : i < n + 1 := by have := (List.getElem?_eq_some_iff.1 hy).1; simp [hl] at this; omega
      have e : i = n := by omega
      subst e
      rw [List.getElem?_append_right (by omega), hl] at hy
      simp at hy
      rw [← hy]; exact hq
theorem okWide_spot {t e : TypeId} {r : Reach} {base : Nat} {v : Value} (ht : P.underlying t = some (.slice e)) (h : Value.okWide P W r base t v) : ∀ a n c, v = .slice (some a) n c → a.spot = none := by
  rintro a n c rfl
  simp only [Value.okWide, ht, Cell.okWide, Cell.ok] at h
  exact h.2.2.2.1
theorem weights_all_mem {e : TypeId} {d : DataW H} : ∀ {ds : List (DataW H)}, d ∈ ds → ∀ n ∈ d.weights P e, n ∈ DataW.weightsAll P e ds := by
  intro ds
  induction ds with
  | nil => intro h; simp at h
  | cons a r ih =>
    intro h n hn
    simp only [DataW.weightsAll, List.mem_append]
    rcases List.mem_cons.1 h with rfl | h
    · exact .inl hn
    · exact .inr (ih h n hn)
theorem add_plain {a : Addr} (h : a.spot = none) (n : Nat) : a.add n = ⟨a.block, a.off + n, none⟩ := by
  obtain ⟨b, o, s⟩ := a
  simp only at h
  subst h
  exact addA_none b o n
/-- a slice that is handed in: where it has room it lies in the world -/
theorem open_slice {t e : TypeId} (B sz : Nat) (ht : P.underlying t = some (.slice e)) (hc : P.cellsOf e = sz) (hB : P.bytesOf e = B) (hsz : 0 < sz) {fuel : Nat} {cs : List Value} {y : DataW H × List MemPlace}
    (hy : DataW.trod enc P W 0 (fun _ => true) true fuel t cs = some y) (hw : ∀ n ∈ y.1.weights P t, n ≤ reachBytes) :
    (cs = [.slice none 0 0]) ∨ (∃ b o s, cs = [.slice (some ⟨b, o, some s⟩) 0 0]) ∨ ∃ b o len cap, cs = [.slice (some ⟨b, o, none⟩) len cap] ∧ len ≤ cap ∧ len ≤ 9223372036854775807 ∧ len * B ≤ 140737488351232 ∧
      ∀ i, i < len → ∃ (c : List Value) (n : Nat) (z : DataW H × List MemPlace), c.length = sz ∧ (∀ j u, c[j]? = some u → W.cell? ⟨b, o + i * sz + j, none⟩ = some u) ∧ DataW.trod enc P W 0 (fun _ => true) true n e c = some z ∧ ∀ n ∈ z.1.weights P e, n ≤ reachBytes := by
  rcases DataW.trod_slice ht hy with ⟨rfl, _⟩ | ⟨a, len, cap, elems, rest, n, _, rfl, rfl, _, hl, hm, hlen, hel, hsp, _⟩
  · exact .inl rfl
  · obtain ⟨hr1, hr2⟩ := hsp rfl
    have hwt : ∀ d ∈ elems.map (·.1), ∀ m ∈ d.weights P e, m ≤ reachBytes := fun d hd m hm2 => hw m (by
      simp only [DataW.weights, ht, List.mem_cons, List.mem_append]
      exact .inr (.inl (weights_all_mem hd m hm2)))
    have each : ∀ i, i < len → ∃ (c : List Value) (z : DataW H × List MemPlace), c.length = sz ∧ (∀ j u, c[j]? = some u → W.cell? (a.add (i * sz + j)) = some u) ∧ DataW.trod enc P W 0 (fun _ => true) true n e c = some z ∧ ∀ n ∈ z.1.weights P e, n ≤ reachBytes := by
      intro i hi
      have h1 := hel i hi
      rw [List.getElem?_eq_getElem (show i < elems.length from by omega), Option.bind_eq_some_iff] at h1
      obtain ⟨c, hcs, hy'⟩ := h1
      obtain ⟨_, hcl, hcell⟩ := World.cells?_some hcs
      refine ⟨c, _, by omega, fun j u hj => ?_, hy', fun m hm2 => hwt _ (List.mem_map.2 ⟨_, List.getElem_mem _, rfl⟩) m hm2⟩
      have hj2 : j < P.cellsOf e := by have := (List.getElem?_eq_some_iff.1 hj).1; omega
      have := hcell j hj2
      rw [hj, hc] at this
      rw [← this, Go.Addr.add_add]
    by_cases h0 : cap = 0
    · subst h0
      obtain rfl : len = 0 := by omega
      obtain ⟨b, o, s⟩ := a
      cases s with
      | none => exact .inr (.inr ⟨b, o, 0, 0, rfl, Nat.le_refl _, Nat.zero_le _, by omega, fun i hi => absurd hi (Nat.not_lt_zero i)⟩)
      | some s => exact .inr (.inl ⟨b, o, s, rfl⟩)
    · have hspot : a.spot = none := by
        have aux : ∀ k c, k = 0 → W.cells? 0 (a.add (k * P.cellsOf e)) (P.cellsOf e) = some c → a.spot = none := by
          intro k c hk hcs
          subst hk
          obtain ⟨_, hcl, hcell⟩ := World.cells?_some hcs
          have hlt : 0 < c.length := by omega
          have h2 := hcell 0 (by omega)
          rw [List.getElem?_eq_getElem hlt] at h2
          have := (cell_lt h2).2
          simpa [Addr.add] using this
        by_cases hl0 : len = 0
        · have h1 := hr2 0 (by omega)
          rw [List.getElem?_eq_getElem (show 0 < rest.length from by omega), Option.bind_eq_some_iff] at h1
          obtain ⟨c, hcs, _⟩ := h1
          exact aux (len + 0) c (by omega) hcs
        · have h1 := hel 0 (by omega)
          rw [List.getElem?_eq_getElem (show 0 < elems.length from by omega), Option.bind_eq_some_iff] at h1
          obtain ⟨c, hcs, _⟩ := h1
          exact aux 0 c rfl hcs
      obtain ⟨b, o, s⟩ := a
      simp only at hspot
      subst hspot
      refine .inr (.inr ⟨b, o, len, cap, rfl, hl, ?_, ?_, fun i hi => ?_⟩)
      · have : maxLen = 9223372036854775807 := by decide
        omega
      · have := hw ((elems.length + rest.length) * P.bytesOf e) (by
          have e1 : (elems.map (·.1)).length = elems.length := List.length_map _
          have e2 : (rest.map (·.1)).length = rest.length := List.length_map _
          simp only [DataW.weights, ht, List.mem_cons, e1, e2]
          exact .inl trivial)
        rw [hB] at this
        have h2 : len * B ≤ (elems.length + rest.length) * B := Nat.mul_le_mul_right _ (by omega)
        exact Nat.le_trans h2 (Nat.le_trans this (by decide))
      · obtain ⟨c, z, h1, h2, h3, h4⟩ := each i hi
        exact ⟨c, n, z, h1, fun j u hj => by rw [← h2 j u hj, addA_none, Nat.add_assoc], h3, h4⟩
/-- integers that are handed in -/
theorem open_ints {t e : TypeId} (ht : P.underlying t = some (.slice e)) (he : P.underlying e = some (.int .i64)) (hc : P.cellsOf e = 1) (hB : P.bytesOf e = 8) {fuel : Nat} {cs : List Value} {y : DataW H × List MemPlace}
    (hy : DataW.trod enc P W 0 (fun _ => true) true fuel t cs = some y) (hw : ∀ n ∈ y.1.weights P t, n ≤ reachBytes) :
    ∃ (v : Value) (xs : List Int), cs = [v] ∧ (RInts ⟨W, []⟩ (e1 v) xs ∨ ∃ b o s, v = .slice (some ⟨b, o, some s⟩) 0 0 ∧ xs = []) ∧ xs.length * 8 ≤ 140737488351232 ∧ (∀ a n c, v = .slice (some a) n c → n ≤ c) ∧ plain1 (e1 v) = true ∧ ∃ a n c, v = .slice a n c := by
  rcases open_slice 8 1 ht hc hB (by decide) hy hw with rfl | ⟨b, o, s, rfl⟩ | ⟨b, o, len, cap, rfl, hl, hm, hb, each⟩
  · exact ⟨_, [], rfl, .inl (.inr ⟨rfl, rfl⟩), by simp, (fun a n c h => by cases h), rfl, _, _, _, rfl⟩
  · exact ⟨_, [], rfl, .inr ⟨b, o, s, rfl, rfl⟩, by simp, (fun a n c h => by cases h; exact Nat.le_refl _), rfl, _, _, _, rfl⟩
  · obtain ⟨xs, hxl, hxs⟩ := pick_list (Q := fun i z => look ⟨W, []⟩ ⟨b, o + i, none⟩ = some (.int .i64 z)) len (fun i hi => by
      obtain ⟨c, n, z, h1, h2, h3, _⟩ := each i hi
      obtain ⟨k, rfl, _, _⟩ := DataW.trod_int he h3
      refine ⟨k, ?_⟩
      have := h2 0 _ rfl
      simp only [Nat.mul_one, Nat.add_zero] at this
      exact look_w this rfl)
    refine ⟨_, xs, rfl, .inl (.inl ⟨b, o, cap, by rw [hxl]; rfl, by omega, hxs⟩), by rw [hxl]; exact hb, (fun a n c h => by cases h; exact hl), rfl, _, _, _, rfl⟩
end
/-- an argument's weights, out of all arguments' -/
theorem weigh {H : Type} {P : Program} {ts : List TypeId} {ds : List (DataW H)} {j : Nat} {t : TypeId} {d : DataW H} (h : (DataW.weightsEach P ts ds).all (· ≤ reachBytes) = true) (ht : ts[j]? = some t) (hd : ds[j]? = some d) : ∀ n ∈ d.weights P t, n ≤ reachBytes :=
  fun n hn => by have := List.all_eq_true.1 h n (DataW.weights_mem_each ht hd n hn); simpa using this
/-- a function that is told for whoever calls it, called from the world as it is handed in -/
theorem C0.run {P : Program} {f : FuncId} {args : List Value} {W : World} {r : Value} (h : C0 P f args ⟨W, []⟩ r) (ha : args.map (cV id) = args) (hr : cV id r = r) : Calls P f args.toArray W fun e w' => e = .returned r ∧ Below W.heap.size W w' := by
  have hS : St ⟨W, []⟩ id [] W := ⟨⟨rfl, rfl, rfl, Nat.le_refl _, fun _ _ => rfl⟩, by simp, (fun x hx => by cases hx), (fun x hx => by cases hx)⟩
  have h1 := h id W hS
  rw [ha] at h1
  exact h1.mono fun e w' ⟨v, X, h2, _, _, h3, h4, h5⟩ => by
    subst h4
    exact ⟨by rw [h2, hr], h3.below⟩
end Go.Proofs.Ytfcckfiipbdnkaa.Am
namespace Go.Proofs.Ytfcckfiipbdnkaa.Am
set_option linter.unusedSimpArgs false
set_option linter.unusedVariables false
open Go Go.RowKit
/-! Kinds of data, told by what is read; what is handed in reads as its kind. -/
structure Knd (α : Type) where
  sz : Nat
  R : Mem → List Value → α → Prop
  len : ∀ {F : Mem} {cs : List Value} {x : α}, R F cs x → cs.length = sz
  le : ∀ {F F' : Mem} {cs : List Value} {x : α}, F.le F' → R F cs x → R F' cs x
theorem lookN_le {F F' : Mem} (hl : F.le F') : ∀ {n : Nat} {a : Addr} {cs : List Value}, lookN F a n = some cs → lookN F' a n = some cs := by
  intro n
  induction n with
  | zero => intro a cs h; exact h
  | succ n ih =>
    intro a cs h
    simp only [lookN] at h ⊢
    split at h <;> try (simp at h; done)
    rename_i v hv
    split at h <;> try (simp at h; done)
    rename_i cs' hcs
    rw [hl _ _ hv, ih hcs]; exact h
/-- a slice, told by what stands in it -/
def Knd.S {α : Type} (k : Knd α) (F : Mem) (v : Value) (xs : List α) : Prop :=
  (∃ b off c, v = .slice (some ⟨b, off, none⟩) xs.length c ∧ xs.length ≤ 9223372036854775807 ∧ ∀ i x, xs[i]? = some x → ∃ cs, lookN F ⟨b, off + i * k.sz, none⟩ k.sz = some cs ∧ k.R F cs x) ∨ (v = .slice none 0 0 ∧ xs = [])
theorem Knd.S.le {α : Type} {k : Knd α} {F F' : Mem} {v : Value} {xs : List α} (h : k.S F v xs) (hl : F.le F') : k.S F' v xs := by
  rcases h with ⟨b, off, c, h1, h2, h3⟩ | h
  · exact .inl ⟨b, off, c, h1, h2, fun i x hx => by obtain ⟨cs, hc, hr⟩ := h3 i x hx; exact ⟨cs, lookN_le hl hc, k.le hl hr⟩⟩
  · exact .inr h
def Knd.int (j : IntKind) : Knd Int where
  sz := 1
  R _ cs x := cs = [.int j x]
  len h := by rw [h]; rfl
  le _ h := h
def Knd.bool : Knd Bool where
  sz := 1
  R _ cs x := cs = [.bool x]
  len h := by rw [h]; rfl
  le _ h := h
def Knd.string : Knd ByteArray where
  sz := 1
  R _ cs x := cs = [.string x]
  len h := by rw [h]; rfl
  le _ h := h
/-- a slice in a cell: of nothing, the address may be any -/
def Knd.slice {α : Type} (k : Knd α) : Knd (List α) where
  sz := 1
  R F cs xs := ∃ v, cs = [v] ∧ (k.S F v xs ∨ ∃ b o s, v = .slice (some ⟨b, o, some (s + 1)⟩) 0 0 ∧ xs = [])
  len h := by obtain ⟨v, rfl, _⟩ := h; rfl
  le hl h := by
    obtain ⟨v, e, h⟩ := h
    exact ⟨v, e, h.imp (·.le hl) id⟩
def Knd.pair {α β : Type} (k : Knd α) (j : Knd β) : Knd (α × β) where
  sz := k.sz + j.sz
  R F cs x := ∃ c1 c2, cs = c1 ++ c2 ∧ k.R F c1 x.1 ∧ j.R F c2 x.2
  len h := by obtain ⟨c1, c2, rfl, h1, h2⟩ := h; rw [List.length_append, k.len h1, j.len h2]
  le hl h := by
    obtain ⟨c1, c2, e, h1, h2⟩ := h
    exact ⟨c1, c2, e, k.le hl h1, j.le hl h2⟩
def Knd.iso {α β : Type} (k : Knd α) (f : β → α) : Knd β where
  sz := k.sz
  R F cs x := k.R F cs (f x)
  len h := k.len h
  le hl h := k.le hl h
section
variable {H : Type} {enc : TypeId × Value → H} {P : Program} {W : World}
def Opens {α : Type} (enc : TypeId × Value → H) (P : Program) (W : World) (t : TypeId) (k : Knd α) (G : α → Prop) : Prop :=
  ∀ (fuel : Nat) (cs : List Value) (y : DataW H × List MemPlace), DataW.trod enc P W 0 (fun _ => true) true fuel t cs = some y → (∀ n ∈ y.1.weights P t, n ≤ reachBytes) → ∃ x, k.R ⟨W, []⟩ (cs.map e1) x ∧ (∀ u ∈ cs, plain1 (e1 u) = true) ∧ G x
theorem opens_int {t : TypeId} {k : IntKind} (ht : P.underlying t = some (.int k)) : Opens enc P W t (Knd.int k) (fun n => (Lit.int k n).wf = true) := by
  intro fuel cs y h _
  obtain ⟨n, rfl, _, hw⟩ := DataW.trod_int ht h
  exact ⟨n, rfl, fun u hu => by simp only [List.mem_singleton] at hu; subst hu; rfl, hw⟩
theorem opens_bool {t : TypeId} (ht : P.underlying t = some .bool) : Opens enc P W t Knd.bool (fun _ => True) := by
  intro fuel cs y h _
  obtain ⟨b, rfl, _⟩ := DataW.trod_bool ht h
  exact ⟨b, rfl, fun u hu => by simp only [List.mem_singleton] at hu; subst hu; rfl, trivial⟩
theorem opens_string {t : TypeId} (ht : P.underlying t = some .string) : Opens enc P W t Knd.string (fun s => s.size ≤ 140737488351232) := by
  intro fuel cs y h hw
  obtain ⟨s, rfl, rfl, _⟩ := DataW.trod_string ht h
  refine ⟨s, rfl, fun u hu => by simp only [List.mem_singleton] at hu; subst hu; rfl, ?_⟩
  have := hw s.data.toList.length (by simp [DataW.weights])
  rw [Array.length_toList] at this
  exact Nat.le_trans this (by decide)
theorem opens_iso {α β : Type} {t : TypeId} {k : Knd α} {G : α → Prop} {f : β → α} (g : α → β) (hf : ∀ p, f (g p) = p) (h : Opens enc P W t k G) : Opens enc P W t (k.iso f) (fun x => G (f x)) := by
  intro fuel cs y hy hw
  obtain ⟨p, hK, hp, hG⟩ := h fuel cs y hy hw
  refine ⟨g p, ?_, hp, ?_⟩
  · show k.R _ _ (f (g p))
    rw [hf]; exact hK
  · show G (f (g p))
    rw [hf]; exact hG
theorem opens_weak {α : Type} {t : TypeId} {k : Knd α} {G G' : α → Prop} (h : Opens enc P W t k G) (hg : ∀ x, G x → G' x) : Opens enc P W t k G' := by
  intro fuel cs y hy hw
  obtain ⟨p, hK, hp, hG⟩ := h fuel cs y hy hw
  exact ⟨p, hK, hp, hg _ hG⟩
/-- the rows of a slice that is handed in -/
theorem opens_rows {α : Type} {t e : TypeId} {k : Knd α} {G : α → Prop} (B : Nat) (ht : P.underlying t = some (.slice e)) (hc : P.cellsOf e = k.sz) (hB : P.bytesOf e = B) (hsz : 0 < k.sz) (h : Opens enc P W e k G) {fuel : Nat} {cs : List Value} {y : DataW H × List MemPlace}
    (hy : DataW.trod enc P W 0 (fun _ => true) true fuel t cs = some y) (hw : ∀ n ∈ y.1.weights P t, n ≤ reachBytes) :
    ∃ (v : Value) (xs : List α), cs = [v] ∧ (k.S ⟨W, []⟩ (e1 v) xs ∨ ∃ b o s, v = .slice (some ⟨b, o, some s⟩) 0 0 ∧ xs = []) ∧ plain1 (e1 v) = true ∧ (∀ x ∈ xs, G x) ∧ xs.length * B ≤ 140737488351232 ∧ ∀ a n c, v = .slice a n c → n ≤ c := by
  rcases open_slice B k.sz ht hc hB hsz hy hw with rfl | ⟨b, o, s, rfl⟩ | ⟨b, o, len, cap, rfl, hl, hm, hb, each⟩
  · exact ⟨_, [], rfl, .inl (.inr ⟨rfl, rfl⟩), rfl, fun x hx => (by cases hx), by simp, fun a n c e => by simp only [Value.slice.injEq] at e; omega⟩
  · exact ⟨_, [], rfl, .inr ⟨b, o, s, rfl, rfl⟩, rfl, fun x hx => (by cases hx), by simp, fun a n c e => by simp only [Value.slice.injEq] at e; omega⟩
  · obtain ⟨xs, hll, hls⟩ := pick_list (Q := fun i (x : α) => (∃ cs, lookN ⟨W, []⟩ ⟨b, o + i * k.sz, none⟩ k.sz = some cs ∧ k.R ⟨W, []⟩ cs x) ∧ G x) len (fun i hi => by
      obtain ⟨c, n, z, h1, h2, h3, h4⟩ := each i hi
      obtain ⟨x, hR, hp, hG⟩ := h n c z h3 h4
      refine ⟨x, ⟨c.map e1, ?_, hR⟩, hG⟩
      have := lookN_of (F := ⟨W, []⟩) (a := ⟨b, o + i * k.sz, none⟩) (cs := c.map e1) (fun j v hv => by
        rw [List.getElem?_map] at hv
        cases hu : c[j]? with
        | none => simp [hu] at hv
        | some u =>
          simp only [hu, Option.map_some, Option.some.injEq] at hv
          subst hv
          exact look_w (h2 j u hu) (hp u (List.mem_of_getElem? hu)))
      rw [List.length_map, h1] at this
      exact this)
    refine ⟨_, xs, rfl, .inl (.inl ⟨b, o, cap, by rw [hll]; rfl, by omega, fun i x hx => (hls i x hx).1⟩), rfl, fun x hx => ?_, by rw [hll]; exact hb, fun a n c e => by simp only [Value.slice.injEq] at e; omega⟩
    obtain ⟨i, hi⟩ := List.getElem?_of_mem hx
    exact (hls i x hi).2
theorem opens_slice {α : Type} {t e : TypeId} {k : Knd α} {G : α → Prop} (B : Nat) (ht : P.underlying t = some (.slice e)) (hc : P.cellsOf e = k.sz) (hB : P.bytesOf e = B) (hsz : 0 < k.sz) (h : Opens enc P W e k G) :
    Opens enc P W t k.slice (fun xs => (∀ x ∈ xs, G x) ∧ xs.length * B ≤ 140737488351232) := by
  intro fuel cs y hy hw
  obtain ⟨v, xs, rfl, hS, hp, hG, hb, _⟩ := opens_rows B ht hc hB hsz h hy hw
  refine ⟨xs, ⟨e1 v, rfl, ?_⟩, fun u hu => by simp only [List.mem_singleton] at hu; subst hu; exact hp, hG, hb⟩
  rcases hS with hS | ⟨b, o, s, rfl, rfl⟩
  · exact .inl hS
  · exact .inr ⟨b, o, s, rfl, rfl⟩
/-- the cells of some fields, one behind the other -/
def catF (P : Program) (cs : List Value) : List Field → List Value
  | [] => []
  | f :: fs => (cs.drop f.offset).take (P.cellsOf f.type) ++ catF P cs fs
def OpensF {α : Type} (enc : TypeId × Value → H) (P : Program) (W : World) (fs : List Field) (k : Knd α) (G : α → Prop) : Prop :=
  ∀ (fuel : Nat) (cs : List Value) (xs : List (DataW H × List MemPlace)), xs.length = fs.length → (∀ (i : Nat) (f : Field), fs[i]? = some f → DataW.trod enc P W 0 (fun _ => true) true fuel f.type ((cs.drop f.offset).take (P.cellsOf f.type)) = xs[i]?) →
    (∀ n ∈ DataW.weightsEach P (fs.map (·.type)) (xs.map (·.1)), n ≤ reachBytes) → ∃ x, k.R ⟨W, []⟩ ((catF P cs fs).map e1) x ∧ (∀ u ∈ catF P cs fs, plain1 (e1 u) = true) ∧ G x
theorem opensF_one {α : Type} {f : Field} {k : Knd α} {G : α → Prop} (h : Opens enc P W f.type k G) : OpensF enc P W [f] k G := by
  intro fuel cs xs hl hf hw
  match xs, hl with
  | [y], _ =>
    obtain ⟨x, hK, hp, hG⟩ := h fuel _ y (hf 0 f rfl) (fun n hn => hw n (by simp only [List.map_cons, List.map_nil, DataW.weightsEach, List.mem_append]; exact .inl hn))
    exact ⟨x, by simpa [catF] using hK, fun u hu => hp u (by simpa [catF] using hu), hG⟩
theorem opensF_cons {α β : Type} {f : Field} {fs : List Field} {k : Knd α} {k2 : Knd β} {G : α → Prop} {G2 : β → Prop} (h : Opens enc P W f.type k G) (h2 : OpensF enc P W fs k2 G2) : OpensF enc P W (f :: fs) (k.pair k2) (fun x => G x.1 ∧ G2 x.2) := by
  intro fuel cs xs hl hf hw
  match xs, hl with
  | y :: ys, hl =>
    obtain ⟨x, hK, hp, hG⟩ := h fuel _ y (hf 0 f rfl) (fun n hn => hw n (by simp only [List.map_cons, DataW.weightsEach, List.mem_append]; exact .inl hn))
    obtain ⟨x2, hK2, hp2, hG2⟩ := h2 fuel cs ys (by simpa using hl) (fun i g hg => hf (i + 1) g hg) (fun n hn => hw n (by simp only [List.map_cons, DataW.weightsEach, List.mem_append]; exact .inr hn))
    exact ⟨(x, x2), ⟨_, _, List.map_append, hK, hK2⟩, fun u hu => by
      simp only [catF, List.mem_append] at hu
      rcases hu with hu | hu
      · exact hp u hu
      · exact hp2 u hu, hG, hG2⟩
/-- the fields stand one behind the other from o on; how many cells they take -/
def contig (P : Program) : Nat → List Field → Option Nat
  | o, [] => some o
  | o, f :: fs => if f.offset = o then contig P (o + P.cellsOf f.type) fs else none
theorem catF_contig (cs : List Value) : ∀ (fs : List Field) (o m : Nat), contig P o fs = some m → m ≤ cs.length → catF P cs fs = (cs.drop o).take (m - o) ∧ o ≤ m := by
  intro fs
  induction fs with
  | nil => intro o m h hm; simp only [contig, Option.some.injEq] at h; subst h; simp [catF]
  | cons f fs ih =>
    intro o m h hm
    simp only [contig] at h
    split at h
    · rename_i ho
      obtain ⟨e, h1⟩ := ih _ _ h hm
      refine ⟨?_, by omega⟩
      simp only [catF]
      rw [e, ho, show m - o = P.cellsOf f.type + (m - (o + P.cellsOf f.type)) from by omega, List.take_add, List.drop_drop]
    · exact absurd h (by simp)
theorem opens_struct {α : Type} {t : TypeId} {fs : Array Field} {k : Knd α} {G : α → Prop} (ht : P.underlying t = some (.struct fs)) (hcon : contig P 0 fs.toList = some (P.cellsOf t)) (h : OpensF enc P W fs.toList k G) : Opens enc P W t k G := by
  intro fuel cs y hy hw
  obtain ⟨xs, n, _, rfl, hl, hxl, hx⟩ := DataW.trod_struct ht hy
  obtain ⟨x, hK, hp, hG⟩ := h n cs xs (by simpa using hxl) (fun i f hf => hx i f (by simpa using hf)) (fun m hm => hw m (by simp only [DataW.weights, ht]; exact hm))
  obtain ⟨e, _⟩ := catF_contig (P := P) cs fs.toList 0 _ hcon (by omega)
  have e2 : catF P cs fs.toList = cs := by rw [e]; simp [← hl]
  rw [e2] at hK hp
  exact ⟨x, hK, hp, hG⟩
/-- a value that is handed in, as it is told -/
def eV : Value → Value
  | .agg cs => .agg ⟨cs.toList.map e1⟩
  | v => e1 v
theorem cV_eV {v : Value} (h : ∀ vs, v ≠ .tuple vs) : cV id (eV v) = v := by
  cases v with
  | agg cs =>
    have : (⟨cs.toList.map e1⟩ : Array Value).map (c1 id) = cs := by
      apply Array.ext'
      simp only [Array.toList_map, List.map_map]
      conv => rhs; rw [← List.map_id cs.toList]
      exact List.map_congr_left fun v _ => c1_e1 id v
    show cV id (.agg ⟨cs.toList.map e1⟩) = .agg cs
    rw [cV_agg, this]
  | tuple vs => exact absurd rfl (h vs)
  | func fn x y => exact c1_e1 id (.func fn x y)
  | pointer a => cases a with
    | none => rfl
    | some a => exact c1_e1 id (.pointer (some a))
  | slice a n c => cases a with
    | none => rfl
    | some a => exact c1_e1 id (.slice (some a) n c)
  | _ => rfl
/-- an argument, opened -/
theorem opened {α : Type} {t : TypeId} {k : Knd α} {G : α → Prop} {v : Value} {d : DataW H} {ps : List MemPlace} (h : Opens enc P W t k G) (ht : DataW.Trod enc P W 0 (fun _ => true) true t v d ps) (hw : ∀ n ∈ d.weights P t, n ≤ reachBytes) : ∃ x, k.R ⟨W, []⟩ (v.cells.toList.map e1) x ∧ G x := by
  obtain ⟨fuel, hf⟩ := ht
  obtain ⟨x, h1, _, h2⟩ := h fuel _ _ hf hw
  exact ⟨x, h1, h2⟩
/-- a slice that is an argument itself -/
theorem openedS {α : Type} {t e : TypeId} {k : Knd α} {G : α → Prop} (B : Nat) (ht : P.underlying t = some (.slice e)) (hc : P.cellsOf e = k.sz) (hB : P.bytesOf e = B) (hsz : 0 < k.sz) (h : Opens enc P W e k G) {v : Value} {d : DataW H} {ps : List MemPlace} {a : Option Addr} {n c : Nat} (hv : v = .slice a n c) (hs : ∀ a n c, v = .slice (some a) n c → a.spot = none)
    (hd : DataW.Trod enc P W 0 (fun _ => true) true t v d ps) (hw : ∀ n ∈ d.weights P t, n ≤ reachBytes) : ∃ xs : List α, k.S ⟨W, []⟩ v xs ∧ eV v = v ∧ (∀ x ∈ xs, G x) ∧ xs.length * B ≤ 140737488351232 ∧ ∀ a n c, v = .slice a n c → n ≤ c := by
  obtain ⟨fuel, hf⟩ := hd
  subst hv
  obtain ⟨v, xs, e0, hS, hp, hG, hb, hc⟩ := opens_rows B ht hc hB hsz h hf hw
  have e0' : [Value.slice a n c] = [v] := e0
  obtain rfl : Value.slice a n c = v := (List.cons.inj e0').1
  have he : e1 (.slice a n c) = .slice a n c := by
    cases a with
    | none => rfl
    | some a =>
      have := hs a n c rfl
      obtain ⟨b, o, s⟩ := a
      simp only at this
      subst this
      rfl
  refine ⟨xs, ?_, he, hG, hb, hc⟩
  rcases hS with hS | ⟨b, o, s, hS, _⟩
  · rw [he] at hS; exact hS
  · have := hs _ _ _ hS
    cases this
end
/-- a function that is told for whoever calls it, called from the world as it is handed in -/
theorem C0.run_e {P : Program} {f : FuncId} {args : List Value} {W : World} {r : Value} (h : C0 P f (args.map eV) ⟨W, []⟩ r) (ha : ∀ v ∈ args, ∀ vs, v ≠ .tuple vs) (hr : cV id r = r) : Calls P f args.toArray W fun e w' => e = .returned r ∧ Below W.heap.size W w' := by
  have e : (args.map eV).map (cV id) = args := by
    rw [List.map_map]
    conv => rhs; rw [← List.map_id args]
    exact List.map_congr_left fun v hv => cV_eV (ha v hv)
  have := C0.run (P := P) (f := f) (args := args.map eV) (W := W) (r := r)
  obtain h2 := h id W (St.none W id)
  rw [e] at h2
  refine h2.mono fun x w' ⟨v, X, h1, _, _, h3, h4, h5⟩ => ?_
  subst h4 h5
  exact ⟨by rw [h1, hr], h3.below⟩
end Go.Proofs.Ytfcckfiipbdnkaa.Am
namespace Go.Proofs.Ytfcckfiipbdnkaa.Am
set_option linter.unusedSimpArgs false
set_option linter.unusedVariables false
open Go Go.RowKit
/-! A call and an operation that may come up one or the other first. -/
section
variable {X : Cx} {F F0 : Mem} {L : Slots} {K K0 : Own} {s : List SI} {l : List Oper} {b : Nat} {D : List Nat} {p : List (Nat × Bool)} {listed : Array Bool}
theorem JD.twoC {i j f d : Nat} {o o2 : Oper} {args : Array Operand} {ts : Array TypeId} {vs : List Value} {Q : Value → List (Nat × Row) → Prop} {c : Nat} (hi : i < 100) (hj : j < 100) (ho : l[i]? = some o) (ho2 : l[j]? = some o2) (hg : o.guard = none) (hg2 : o2.guard = none)
    (hop : o.op = .call ⟨.value (.func f), args, ts⟩) (hd : o.dst = some d) (hN : d < X.N) (hargs : mapE (evO L) args.toList = some vs) (hfn : fnOk X.P f = true) (hkp : Kept b F0 K0 (listed.setIfInBounds i true) F K) (hc : c = 10000 + 100 * i + j ∨ c = 10000 + 100 * j + i)
    (h : ∀ ι, Val ι K F → F.le (push ι K F) → C X.P f (vs.map (rV ι)) (push ι K F) Q)
    (hk : ∀ v Y, Q v Y → (∀ κ, rV κ v = v) → (∀ x ∈ Y, ∀ u ∈ x.2.cs, plain1 u = true) → New F Y → JD X l b F0 K0 D ((j, false) :: p) (listed.setIfInBounds i true) s (F.add Y) ((d, v) :: L) K)
    (h2 : Go1 X.P X.N D F L K o2 (fun F' L' K' => Kept b F0 K0 (listed.setIfInBounds j true) F' K' ∧ JD X l b F0 K0 D ((i, false) :: p) (listed.setIfInBounds j true) s F' L' K')) : JD X l b F0 K0 D ((c, false) :: p) listed s F L K := by
  intro hp hok ι0 ι a w hF hS hag hS0
  have hbig5 : ¬ (c < 5000) := by omega
  have hbig : ¬ (c < 10000) := by omega
  have hbig2 : c < 1000000 := by omega
  have hsp : ∃ i' j', c / 100 % 100 = i' ∧ c % 100 = j' ∧ ((i' = i ∧ j' = j) ∨ (i' = j ∧ j' = i)) := ⟨_, _, rfl, rfl, by omega⟩
  obtain ⟨i', j', e1, e2, hij⟩ := hsp
  simp only [planOk, hbig5, hbig, hbig2, if_true, if_false, e1, e2, Bool.and_eq_true, beq_iff_eq, bne_iff_ne, ne_eq] at hp
  obtain ⟨p1, p2, p3, p4, p5⟩ := hp
  have hboth : i ≠ j ∧ (∀ k, k ∈ [i', j'] → k = i ∨ k = j) ∧ planOk l b (listed.setIfInBounds i true) ((j, false) :: p) = true ∧ planOk l b (listed.setIfInBounds j true) ((i, false) :: p) = true := by
    have hlt : i' < 5000 ∧ j' < 5000 := by omega
    have q1 : planOk l b (listed.setIfInBounds i' true) ((j', false) :: p) = true := by
      simp only [planOk, hlt.2, if_true, p3, beq_self_eq_true, Bool.true_and]; exact p5
    have q2 : planOk l b (listed.setIfInBounds j' true) ((i', false) :: p) = true := by
      simp only [planOk, hlt.1, if_true, p4, beq_self_eq_true, Bool.true_and]
      rw [Array.setIfInBounds_comm _ _ (Ne.symm p2)]; exact p5
    rcases hij with ⟨rfl, rfl⟩ | ⟨rfl, rfl⟩
    · exact ⟨p2, fun k hk => by simpa using hk, q1, q2⟩
    · exact ⟨Ne.symm p2, fun k hk => by simp at hk; omega, q2, q1⟩
  obtain ⟨_, hmem, hp1, hp2⟩ := hboth
  rw [show pl ((c, false) :: p) = (pl p + 1) + 1 from by simp [pl, hbig5, hbig, hbig2]]
  refine ⟨fun h0 => (by rw [p1] at h0; cases h0), fun k hk' => ?_⟩
  rw [p1] at hk'
  have hlen1 : pl ((j, false) :: p) = pl p + 1 := by simp [pl, show j < 5000 from by omega]
  have hlen2 : pl ((i, false) :: p) = pl p + 1 := by simp [pl, show i < 5000 from by omega]
  rcases hmem k hk' with rfl | rfl
  · have ho' : l.toArray[k]? = some o := by simpa using ho
    unfold wpOp
    simp only [ho', Region.wanted, hg, if_true]
    left
    simp only [Oper.wp, callee_run (e := evO L) (fun x u hu => hF.ev hu) hop rfl rfl hargs hfn w, Oper.upon]
    have hcc := h ι hS.val hS.val.le ι w (hS.push ι)
    rw [map_cV_rV] at hcc
    simp only [List.nil_append, List.append_nil]
    refine hcc.mono fun e w' ⟨v, Y, g1, g2, g5, g3, g4⟩ => ?_
    subst g1
    have hS' := hS.pull g3
    have hkp' : Kept b F0 K0 (listed.setIfInBounds k true) (F.add Y) K := by
      rcases hkp with hkp | ⟨hkp, Z, rfl⟩
      · exact .inl hkp
      · exact .inr ⟨hkp, Y ++ Z, by simp [Mem.add]⟩
    have hst : (listed.setIfInBounds k true).getD b false = false → St F0 ι0 K0 w' := fun hl => hkp'.st hS' hag hok.tgk hl
    rw [hd]
    have := hF.put hN v
    refine ⟨hst, ?_⟩
    have hk2 := hk v Y g4 g2 g5 (hS'.new_ g5) hp1 hok ι0 ι _ w' this hS' hag hst
    rw [hlen1] at hk2
    exact hk2
  · obtain ⟨ι1, w1, v, F1, L1, K1, hrun, h1, h2', h3, h4, h5⟩ := h2 ι a w hF hS
    have hag1 : ∀ u ∈ D, ι1 u = ι0 u := fun u hu => (h3 u hu).trans (hag u hu)
    have ho'' : l.toArray[k]? = some o2 := by simpa using ho2
    unfold wpOp
    simp only [ho'', Region.wanted, hg2, if_true]
    left
    have hk2 := h5 hp2 hok ι0 ι1 _ w1 h1 h2' hag1 (fun hl => h4.st h2' hag1 hok.tgk hl)
    rw [hlen2] at hk2
    have hk3 := And.intro (fun hl => h4.st (D := D) h2' hag1 hok.tgk hl) hk2
    simp only [Oper.wp]
    rcases hrun with hr | ⟨hr, rfl⟩
    · rw [hr]; exact hk3
    · rw [hr]; exact hk3
end
/-! Several numbers of a row of numbers, written at once. -/
def setIs (T : Nat → Int) (o : Nat) : List Int → Nat → Int
  | [] => T
  | y :: ys => setIs (setI T o y) (o + 1) ys
theorem gI_puts (n : Nat) : ∀ (ys : List Int) (T : Nat → Int) (o : Nat), putL (gI T n) o (ivs ys) = gI (setIs T o ys) n
  | [], _, _ => rfl
  | y :: ys, T, o => by
    have h := gI_put T n o y
    show putL ((gI T n).set o (.int .i64 y)) (o + 1) (ivs ys) = _
    rw [show (gI T n).set o (.int .i64 y) = gI (setI T o y) n from h, gI_puts n ys]
    rfl
theorem ivs_plain (ys : List Int) : (ivs ys).all plain1 = true := by
  simp [ivs, plain1, plain0]
section
variable {P : Program} {N : Nat} {D : List Nat} {Θ : Tab} {F : Mem} {K : Own} {L : Slots} {T : Pst} (hθ : tabOk P Θ = true)
include hθ
theorem Go1.storeGn {o : Oper} {ty : TypeId} {x y : Operand} {t off n : Nat} {ys : List Int} {G : Nat → Int} {r : Row} {ti : Ty} (ho : o.op = .store ty x y) (hd : o.dst = none) (hi : Θ.lookup ty = some ti)
    (hx : evO L x = some (.pointer (some ⟨t, off, some 0⟩))) (hy : evO L y = some (.agg ⟨ivs ys⟩)) (hr : K.lookup t = some r) (hcs : r.cs = gI G n) (hsz : ti.size = ys.length) (hle : off + ys.length ≤ n)
    (h : T F L (setK t { r with cs := gI (setIs G off ys) n } K)) : Go1 P N D F L K o T := by
  have hc : cellsL (.agg ⟨ivs ys⟩) = ivs ys := rfl
  have hok : okV (.agg ⟨ivs ys⟩) = true := by
    simp [okV, ivs, Value.oneCell']
  refine Go1.store hθ ho hd hi hx hy hok hr (by rw [hc, ivs_length, hsz]) (by rw [hc, ivs_length, hcs, gI_length]; exact hle) ?_
  have e : putL r.cs off (cellsL (.agg ⟨ivs ys⟩)) = gI (setIs G off ys) n := by rw [hcs, hc]; exact gI_puts n ys G off
  rw [e]
  have e2 : (r.flat && (cellsL (.agg ⟨ivs ys⟩)).all plain1) = r.flat := by rw [hc, ivs_plain, Bool.and_true]
  rw [e2]
  exact h
end
section
variable {X : Cx} {F F0 : Mem} {L : Slots} {K K0 : Own} {s : List SI} {ops : Array Oper} {o : Oper} {l : List Oper} {Θ : Tab}
theorem soGn {ty : TypeId} {x y : Operand} {t off n : Nat} {ys : List Int} {G : Nat → Int} {r : Row} {ti : Ty} (hk : JL X ops l s F L (setK t { r with cs := gI (setIs G off ys) n } K))
    (hg : o.guard = none := by rfl) (ho : o.op = .store ty x y := by rfl) (hd : o.dst = none := by rfl) (hθ : tabOk X.P Θ = true := by exact hT) (hi : Θ.lookup ty = some ti := by rfl)
    (hx : evO L x = some (.pointer (some ⟨t, off, some 0⟩)) := by rfl) (hy : evO L y = some (.agg ⟨ivs ys⟩) := by rfl) (hr : K.lookup t = some r := by rfl) (hcs : r.cs = gI G n := by rfl) (hsz : ti.size = ys.length := by rfl) (hle : off + ys.length ≤ n := by (try dsimp only [List.length]); omega) : JL X ops (o :: l) s F L K :=
  JL.step hg (Go1.storeGn hθ ho hd hi hx hy hr hcs hsz hle hk)
end
section
variable {X : Cx} {F F0 : Mem} {L : Slots} {K K0 : Own} {s : List SI} {l : List Oper} {b : Nat} {D : List Nat} {p : List (Nat × Bool)} {listed : Array Bool}
theorem dclgC {i f d j e : Nat} {want : Bool} {o : Oper} {args : Array Operand} {ts : Array TypeId} {vs : List Value} {Q : Value → List (Nat × Row) → Prop}
    (hk : ∀ v Y, Q v Y → (∀ κ, rV κ v = v) → (∀ x ∈ Y, ∀ u ∈ x.2.cs, plain1 u = true) → New F Y → JD X l b F0 K0 D p (listed.setIfInBounds i true) s (F.add Y) ((d, v) :: L) K)
    (hkp : Kept b F0 K0 (listed.setIfInBounds i true) F K := by first | exact Kept.same | exact Kept.all) (ho : l[i]? = some o := by rfl) (hg : o.guard = some (j, want) := by rfl) (hj : (l[j]?).bind (·.dst) = some e := by rfl) (hb : L.lookup e = some (.bool want) := by rfl) (hop : o.op = .call ⟨.value (.func f), args, ts⟩ := by rfl) (hd : o.dst = some d := by rfl) (hN : d < X.N := by exact Nat.le_of_ble_eq_true rfl) (hargs : mapE (evO L) args.toList = some vs := by rfl) (hfn : fnOk X.P f = true := by kernel_rfl) (hi9 : i < 5000 := by exact Nat.le_of_ble_eq_true rfl) (h : ∀ ι, Val ι K F → F.le (push ι K F) → C X.P f (vs.map (rV ι)) (push ι K F) Q) : JD X l b F0 K0 D ((i, false) :: p) listed s F L K :=
  JD.callC_ hi9 ho (fun ι a hF => by rw [JL.wanted (ops := l.toArray) hF hg (by simpa using hj) hb]; simp) hop hd hN hargs hfn hkp h hk
end
/-! Two that may come up, and what comes behind goes on by the choice that was made: the plan's rest is told for each. -/
def JS (X : Cx) (l : List Oper) (b : Nat) (F0 : Mem) (K0 : Own) (D : List Nat) (p : List (Nat × Bool)) (listed : Array Bool) (s : List SI) (i : Nat) : Pst := fun F L K =>
  ∀ (ι0 ι : Nat → Nat) (a : Act) (w : World), Fr X.N ι L a → St F ι K w → (∀ u ∈ D, ι u = ι0 u) → JDok X l K0 D →
    wpOp X.P l.toArray (Lft X.N X.D ι0 (sem X s)) i (fun a' w' => ((listed.setIfInBounds i true).getD b false = false → St F0 ι0 K0 w') ∧ wpAnyB X.P .any l.toArray (Lft X.N X.D ι0 (sem X s)) b (fun w => St F0 ι0 K0 w) (pl p) (listed.setIfInBounds i true) a' w') a w
section
variable {X : Cx} {F F0 : Mem} {L : Slots} {K K0 : Own} {s : List SI} {l : List Oper} {b : Nat} {D : List Nat} {p : List (Nat × Bool)} {listed : Array Bool}
theorem JD.alt {i j k n : Nat} (q1 q2 : List Nat) (h1 : JS X l b F0 K0 D (pm q1) listed s i F L K) (h2 : JS X l b F0 K0 D (pm q2) listed s j F L K) (hr : (Region.ready .any l.toArray listed == [i, j]) = true := by kernel_rfl)
    (hk : ¬ k < 5000 := by omega) (hk2 : k < 10000 := by omega) (hkn : k - 5000 = n + 1 := by rfl) (e1 : pl (pm q1) = n := by kernel_rfl) (e2 : pl (pm q2) = n := by kernel_rfl) : JD X l b F0 K0 D ((k, false) :: p) listed s F L K := by
  intro hp hok ι0 ι a w hF hS hag hS0
  have e : pl ((k, false) :: p) = n + 1 := by
    unfold pl
    rw [if_neg hk, if_pos hk2, hkn]
  rw [e]
  have hr' : Region.ready .any l.toArray listed = [i, j] := by simpa using hr
  refine ⟨fun h0 => (by rw [hr'] at h0; cases h0), fun m hm => ?_⟩
  rw [hr'] at hm
  simp only [List.mem_cons, List.not_mem_nil, or_false] at hm
  rcases hm with rfl | rfl
  · have := h1 ι0 ι a w hF hS hag hok
    rw [e1] at this
    exact this
  · have := h2 ι0 ι a w hF hS hag hok
    rw [e2] at this
    exact this
theorem JS.op {i : Nat} {o : Oper} (ho : l[i]? = some o) (hg : o.guard = none) (hp : planOk l b (listed.setIfInBounds i true) p = true) (h : Go1 X.P X.N D F L K o (fun F' L' K' => Kept b F0 K0 (listed.setIfInBounds i true) F' K' ∧ JD X l b F0 K0 D p (listed.setIfInBounds i true) s F' L' K')) : JS X l b F0 K0 D p listed s i F L K := by
  intro ι0 ι a w hF hS hag hok
  obtain ⟨ι1, w1, v, F1, L1, K1, hrun, h1, h2, h3, h4, h5⟩ := h ι a w hF hS
  have hag1 : ∀ u ∈ D, ι1 u = ι0 u := fun u hu => (h3 u hu).trans (hag u hu)
  have ho' : l.toArray[i]? = some o := by simpa using ho
  unfold wpOp
  simp only [ho', Region.wanted, hg, if_true]
  left
  have hk := And.intro (fun hl => h4.st (D := D) h2 hag1 hok.tgk hl) (h5 hp hok ι0 ι1 _ w1 h1 h2 hag1 (fun hl => h4.st h2 hag1 hok.tgk hl))
  simp only [Oper.wp]
  rcases hrun with hr | ⟨hr, rfl⟩
  · rw [hr]; exact hk
  · rw [hr]; exact hk
theorem JS.callC_ {i : Nat} {o : Oper} {f d : Nat} {args : Array Operand} {ts : Array TypeId} {vs : List Value} {Q : Value → List (Nat × Row) → Prop} (ho : l[i]? = some o) (hw : ∀ ι a, Fr X.N ι L a → Region.wanted o (yielded l.toArray a.tmps) = true) (hp : planOk l b (listed.setIfInBounds i true) p = true) (hop : o.op = .call ⟨.value (.func f), args, ts⟩) (hd : o.dst = some d) (hN : d < X.N)
    (hargs : mapE (evO L) args.toList = some vs) (hfn : fnOk X.P f = true) (hkp : Kept b F0 K0 (listed.setIfInBounds i true) F K) (h : ∀ ι, Val ι K F → F.le (push ι K F) → C X.P f (vs.map (rV ι)) (push ι K F) Q)
    (hk : ∀ v Y, Q v Y → (∀ κ, rV κ v = v) → (∀ x ∈ Y, ∀ u ∈ x.2.cs, plain1 u = true) → New F Y → JD X l b F0 K0 D p (listed.setIfInBounds i true) s (F.add Y) ((d, v) :: L) K) : JS X l b F0 K0 D p listed s i F L K := by
  intro ι0 ι a w hF hS hag hok
  have ho' : l.toArray[i]? = some o := by simpa using ho
  unfold wpOp
  simp only [ho', hw ι a hF, if_true]
  left
  simp only [Oper.wp, callee_run (e := evO L) (fun x u hu => hF.ev hu) hop rfl rfl hargs hfn w, Oper.upon]
  have hc := h ι hS.val hS.val.le ι w (hS.push ι)
  rw [map_cV_rV] at hc
  simp only [List.nil_append, List.append_nil]
  refine hc.mono fun e w' ⟨v, Y, h1, h2, h5, h3, h4⟩ => ?_
  subst h1
  have hS' := hS.pull h3
  have hkp' : Kept b F0 K0 (listed.setIfInBounds i true) (F.add Y) K := by
    rcases hkp with hkp | ⟨hkp, Z, rfl⟩
    · exact .inl hkp
    · exact .inr ⟨hkp, Y ++ Z, by simp [Mem.add]⟩
  have hst : (listed.setIfInBounds i true).getD b false = false → St F0 ι0 K0 w' := fun hl => hkp'.st hS' hag hok.tgk hl
  rw [hd]
  have := hF.put hN v
  exact ⟨hst, hk v Y h4 h2 h5 (hS'.new_ h5) hp hok ι0 ι _ w' this hS' hag hst⟩
/-- a call that leaves rows, as one of two -/
theorem jclC {i f d : Nat} {o : Oper} {args : Array Operand} {ts : Array TypeId} {vs : List Value} {Q : Value → List (Nat × Row) → Prop}
    (hk : ∀ v Y, Q v Y → (∀ κ, rV κ v = v) → (∀ x ∈ Y, ∀ u ∈ x.2.cs, plain1 u = true) → New F Y → JD X l b F0 K0 D p (listed.setIfInBounds i true) s (F.add Y) ((d, v) :: L) K)
    (hkp : Kept b F0 K0 (listed.setIfInBounds i true) F K := by first | exact Kept.same | exact Kept.all) (hp : planOk l b (listed.setIfInBounds i true) p = true := by kernel_rfl) (ho : l[i]? = some o := by rfl) (hg : o.guard = none := by rfl) (hop : o.op = .call ⟨.value (.func f), args, ts⟩ := by rfl) (hd : o.dst = some d := by rfl) (hN : d < X.N := by exact Nat.le_of_ble_eq_true rfl) (hargs : mapE (evO L) args.toList = some vs := by rfl) (hfn : fnOk X.P f = true := by kernel_rfl) (h : ∀ ι, Val ι K F → F.le (push ι K F) → C X.P f (vs.map (rV ι)) (push ι K F) Q) : JS X l b F0 K0 D p listed s i F L K :=
  JS.callC_ ho (fun ι a _ => by simp [Region.wanted, hg]) hp hop hd hN hargs hfn hkp h hk
theorem jcl {i f d : Nat} {o : Oper} {args : Array Operand} {ts : Array TypeId} {vs : List Value} {v : Value} (hk : JD X l b F0 K0 D p (listed.setIfInBounds i true) s F ((d, v) :: L) K)
    (hkp : Kept b F0 K0 (listed.setIfInBounds i true) F K := by first | exact Kept.same | exact Kept.all) (hp : planOk l b (listed.setIfInBounds i true) p = true := by kernel_rfl) (ho : l[i]? = some o := by rfl) (hg : o.guard = none := by rfl) (hop : o.op = .call ⟨.value (.func f), args, ts⟩ := by rfl) (hd : o.dst = some d := by rfl) (hN : d < X.N := by exact Nat.le_of_ble_eq_true rfl) (hargs : mapE (evO L) args.toList = some vs := by rfl) (hfn : fnOk X.P f = true := by kernel_rfl) (h : ∀ ι, Val ι K F → F.le (push ι K F) → C0 X.P f (vs.map (rV ι)) (push ι K F) v) : JS X l b F0 K0 D p listed s i F L K :=
  JS.callC_ ho (fun ι a _ => by simp [Region.wanted, hg]) hp hop hd hN hargs hfn hkp h (by rintro _ _ ⟨rfl, rfl⟩ _ _ _; exact hk)
theorem jal {Θ : Tab} {i : Nat} {o : Oper} {e : TypeId} {d : Nat} {ti : Ty} (hk : JD X l b F0 K0 D p (listed.setIfInBounds i true) s F ((d, .pointer (some ⟨d, 0, some 0⟩)) :: L) ((d, { elem := e, cs := ti.zero, room := ti.zero.length, flat := false }) :: K))
    (hp : planOk l b (listed.setIfInBounds i true) p = true := by kernel_rfl)
    (ho' : l[i]? = some o := by rfl) (hg : o.guard = none := by rfl) (ho : o.op = .alloc e := by rfl) (hd : o.dst = some d := by rfl) (hN : d < X.N := by exact Nat.le_of_ble_eq_true rfl) (hθ : tabOk X.P Θ = true := by exact hT) (hi : Θ.lookup e = some ti := by rfl) (h1 : ti.zero.all (·.oneCell') = true := by rfl)
    (hL : ntL d L = true := by rfl) (hK : ntK d K = true := by rfl) (hD : D.contains d = false := by rfl)
    (hkp : Kept b F0 K0 (listed.setIfInBounds i true) F ((d, { elem := e, cs := ti.zero, room := ti.zero.length, flat := false }) :: K) := by first | exact Kept.all | exact Kept.k0 | exact Kept.kY) : JS X l b F0 K0 D p listed s i F L K :=
  JS.op ho' hg hp (Go1.alloc hθ ho hd hN hi h1 hL hK hD ⟨hkp, hk⟩)
theorem jbx {i : Nat} {o : Oper} {e : TypeId} {x : Operand} {d : Nat} {v : Value} (hk : JD X l b F0 K0 D p (listed.setIfInBounds i true) s F ((d, .pointer (some ⟨d, 0, some 0⟩)) :: L) ((d, { elem := e, cs := cellsL v, room := (cellsL v).length, flat := false }) :: K))
    (hp : planOk l b (listed.setIfInBounds i true) p = true := by kernel_rfl)
    (ho' : l[i]? = some o := by rfl) (hg : o.guard = none := by rfl) (ho : o.op = .box e x := by rfl) (hd : o.dst = some d := by rfl) (hN : d < X.N := by exact Nat.le_of_ble_eq_true rfl) (hx : evO L x = some v := by rfl) (hv : okV v = true := by rfl)
    (hL : ntL d L = true := by rfl) (hK : ntK d K = true := by rfl) (hD : D.contains d = false := by rfl)
    (hkp : Kept b F0 K0 (listed.setIfInBounds i true) F ((d, { elem := e, cs := cellsL v, room := (cellsL v).length, flat := false }) :: K) := by first | exact Kept.all | exact Kept.k0 | exact Kept.kY) : JS X l b F0 K0 D p listed s i F L K :=
  JS.op ho' hg hp (Go1.box ho hd hN hx hv hL hK hD ⟨hkp, hk⟩)
theorem jmk {Θ : Tab} {i : Nat} {o : Oper} {ty el : TypeId} {x c : Operand} {d : Nat} {ti tj : Ty} {kl kc : IntKind} {qn qm : Int} (hk : JD X l b F0 K0 D p (listed.setIfInBounds i true) s F ((d, .slice (some ⟨d, 0, some 0⟩) qn.toNat qm.toNat) :: L) ((d, { elem := el, cs := zer tj qn.toNat, room := qm.toNat * tj.size, flat := true }) :: K))
    (hp : planOk l b (listed.setIfInBounds i true) p = true := by kernel_rfl)
    (ho' : l[i]? = some o := by rfl) (hg : o.guard = none := by rfl) (ho : o.op = .makeSlice ty x c := by rfl) (hd : o.dst = some d := by rfl) (hN : d < X.N := by exact Nat.le_of_ble_eq_true rfl) (hθ : tabOk X.P Θ = true := by exact hT) (hi : Θ.lookup ty = some ti := by rfl) (hki : ti.k = .slice el := by rfl) (hj : Θ.lookup el = some tj := by rfl)
    (hl : evO L x = some (.int kl qn) := by rfl) (hc : evO L c = some (.int kc qm) := by rfl) (h0 : 0 ≤ qn := by omega) (hnm : qn ≤ qm := by omega) (hb : qm.toNat * tj.bytes ≤ 281474976710656 := by (first | omega | (simp; omega))) (hm2 : qm ≤ 9223372036854775807 := by omega) (hz0 : tj.zero.length = tj.size := by rfl) (hz1 : 0 < tj.size := by exact Nat.le_of_ble_eq_true rfl)
    (hL : ntL d L = true := by rfl) (hK : ntK d K = true := by rfl) (hD : D.contains d = false := by rfl)
    (hkp : Kept b F0 K0 (listed.setIfInBounds i true) F ((d, { elem := el, cs := zer tj qn.toNat, room := qm.toNat * tj.size, flat := true }) :: K) := by first | exact Kept.all | exact Kept.k0 | exact Kept.kY) : JS X l b F0 K0 D p listed s i F L K :=
  JS.op ho' hg hp (Go1.make hθ ho hd hN hi hki hj hl hc (Int.toNat_of_nonneg h0).symm (Int.toNat_of_nonneg (by omega)).symm (by omega) hb (by omega) hz0 hz1 hL hK hD ⟨hkp, hk⟩)
end
section
variable {F : Mem} {K K0 : Own} {b : Nat} {listed : Array Bool}
theorem Kept.kYY {Y Z : List (Nat × Row)} (h : KSub K0 K := by repeat' first | exact trivial | refine And.intro rfl ?_) : Kept b F K0 listed ((F.add Y).add Z) K := .inr ⟨h, Z ++ Y, add_add _ _ _⟩
theorem Kept.kY3 {Y Z U : List (Nat × Row)} (h : KSub K0 K := by repeat' first | exact trivial | refine And.intro rfl ?_) : Kept b F K0 listed (((F.add Y).add Z).add U) K := .inr ⟨h, U ++ Z ++ Y, by rw [add_add, add_add]⟩
end
end Go.Proofs.Ytfcckfiipbdnkaa.Am
namespace Go.Proofs.Ytfcckfiipbdnkaa.Am
set_option linter.unusedSimpArgs false
set_option linter.unusedVariables false
open Go Go.RowKit
/-! Calls of functions that write what they are given. Tags of a set T0 stay what they are; rows of tags of T are known behind the call. -/
def rAx (T : List Nat) (ι : Nat → Nat) (a : Addr) : Addr := match a.spot with
  | some 0 => if T.contains a.block then a else ⟨ι a.block, a.off, none⟩
  | _ => a
def r0x (T : List Nat) (ι : Nat → Nat) : Value → Value
  | .pointer (some a) => .pointer (some (rAx T ι a))
  | .slice (some a) n c => .slice (some (rAx T ι a)) n c
  | v => v
def r1x (T : List Nat) (ι : Nat → Nat) : Value → Value
  | .func fn first cap => .func fn ⟨first.toList.map (r0x T ι)⟩ ⟨cap.toList.map (r0x T ι)⟩
  | v => r0x T ι v
def r2x (T : List Nat) (ι : Nat → Nat) : Value → Value
  | .agg cs => .agg ⟨cs.toList.map (r1x T ι)⟩
  | v => r1x T ι v
def rVx (T : List Nat) (ι : Nat → Nat) : Value → Value
  | .tuple vs => .tuple ⟨vs.toList.map (r2x T ι)⟩
  | v => r2x T ι v
section
variable {T : List Nat} {ι : Nat → Nat}
theorem cA_rAx (a : Addr) : cA ι (rAx T ι a) = cA ι a := by
  obtain ⟨b, o, s⟩ := a
  rcases s with _ | _ | s
  · rfl
  · simp only [rAx]
    split <;> rfl
  · rfl
theorem c0_r0x (v : Value) : c0 ι (r0x T ι v) = c0 ι v := by
  cases v with
  | pointer a => cases a with
    | none => rfl
    | some a => simp only [c0, r0x, cA_rAx]
  | slice a n c => cases a with
    | none => rfl
    | some a => simp only [c0, r0x, cA_rAx]
  | _ => rfl
theorem c1_r1x (v : Value) : c1 ι (r1x T ι v) = c1 ι v := by
  cases v with
  | func fn x y =>
    have aux : ∀ l : List Value, (l.map (r0x T ι)).map (c0 ι) = l.map (c0 ι) := fun l => by
      rw [List.map_map]
      exact List.map_congr_left fun v _ => c0_r0x v
    simp only [r1x, c1, aux]
  | pointer a => cases a with
    | none => rfl
    | some a => exact c0_r0x (.pointer (some a))
  | slice a n c => cases a with
    | none => rfl
    | some a => exact c0_r0x (.slice (some a) n c)
  | _ => rfl
theorem c2_r2x (v : Value) : c2 ι (r2x T ι v) = c2 ι v := by
  cases v with
  | agg cs =>
    have aux : ∀ l : List Value, (l.map (r1x T ι)).map (c1 ι) = l.map (c1 ι) := fun l => by
      rw [List.map_map]
      exact List.map_congr_left fun v _ => c1_r1x v
    simp only [r2x, c2, aux]
  | func fn x y => exact c1_r1x (.func fn x y)
  | pointer a => cases a with
    | none => rfl
    | some a => exact c1_r1x (.pointer (some a))
  | slice a n c => cases a with
    | none => rfl
    | some a => exact c1_r1x (.slice (some a) n c)
  | _ => rfl
theorem cV_rVx (v : Value) : cV ι (rVx T ι v) = cV ι v := by
  cases v with
  | tuple vs =>
    have aux : ∀ l : List Value, (l.map (r2x T ι)).map (c2 ι) = l.map (c2 ι) := fun l => by
      rw [List.map_map]
      exact List.map_congr_left fun v _ => c2_r2x v
    simp only [rVx, cV, aux]
  | agg cs => exact c2_r2x (.agg cs)
  | func fn x y => exact c2_r2x (.func fn x y)
  | pointer a => cases a with
    | none => rfl
    | some a => exact c2_r2x (.pointer (some a))
  | slice a n c => cases a with
    | none => rfl
    | some a => exact c2_r2x (.slice (some a) n c)
  | _ => rfl
theorem map_cV_rVx (vs : List Value) : (vs.map (rVx T ι)).map (cV ι) = vs.map (cV ι) := by
  rw [List.map_map]
  exact List.map_congr_left fun v _ => cV_rVx v
end
def CA (P : Program) (T0 T : List Nat) (f : FuncId) (args : List Value) (F : Mem) (K : Own) (Q : Value → List (Nat × Row) → Own → Prop) : Prop :=
  ∀ (ι : Nat → Nat) (w : World), St F ι K w → Calls P f (args.map (cV ι)).toArray w fun e w' => ∃ (ι' : Nat → Nat) (v : Value) (Y : List (Nat × Row)) (K' : Own), e = .returned (cV ι' v) ∧ (∀ t ∈ T0, ι' t = ι t) ∧ tgK T K' = true ∧ tgV T v = true ∧ PlainRows Y ∧ St (F.add Y) ι' K' w' ∧ Q v Y K'
theorem CA.mono {P : Program} {T0 T : List Nat} {f : FuncId} {args : List Value} {F : Mem} {K : Own} {Q Q' : Value → List (Nat × Row) → Own → Prop} (h : CA P T0 T f args F K Q) (hq : ∀ v Y K', Q v Y K' → Q' v Y K') : CA P T0 T f args F K Q' :=
  fun ι w hS => (h ι w hS).mono fun _ _ ⟨ι', v, Y, K', h1, h2, h3, h4, h5, h6, h7⟩ => ⟨ι', v, Y, K', h1, h2, h3, h4, h5, h6, hq _ _ _ h7⟩
/-- what is left behind such a call -/
def outA (F : Mem) (T : List Nat) (Q : Value → List (Nat × Row) → Own → Prop) (v : Value) (F' : Mem) (K' : Own) : Prop :=
  ∃ Y K1, F' = F.add Y ∧ PlainRows Y ∧ KSub K1 K' ∧ tgK T K1 = true ∧ tgV T v = true ∧ Q v Y K1
theorem CA.enter {P : Program} {Θ : Tab} (hT : tabOk P Θ = true) {T0 T : List Nat} {f : FuncId} {fn : Func} {c : Code} {args : List Value} {F : Mem} {K : Own} {Q : Value → List (Nat × Row) → Own → Prop} {n : Nat} {rs : List ResultVar} (hf : P.funcs[f]? = some fn) (hb : fn.body = some c) (hn : fn.ntmps = n) (hrs : fn.results.toList = rs) (hl : args.length ≤ n)
    (h : J ⟨P, n, T0, retR Θ rs (outA F T Q)⟩ [.code c] F (argL 0 args) K) : CA P T0 T f args F K Q := by
  intro ι w hS
  have := AC.enter hT hf hb hn hrs hl h ι w hS
  refine this.mono fun e w' ⟨ι', F', K', v, h1, h2, h3, Y, K1, h4, h5, h6, h7, h8, h9⟩ => ?_
  subst h4
  exact ⟨ι', v, Y, K1, h1, h3, h7, h8, h5, h2.weak h6, h9⟩
theorem CA.go {P : Program} {Θ : Tab} {T0 T : List Nat} {f : FuncId} {fn : Func} {c : Code} {args : List Value} {F : Mem} {K : Own} {Q : Value → List (Nat × Row) → Own → Prop} {n : Nat} {rs : List ResultVar} (hT : tabOk P Θ = true) (hf : P.funcs[f]? = some fn) (hn : fn.ntmps = n)
    (h : J ⟨P, n, T0, retR Θ rs (outA F T Q)⟩ [.code c] F (argL 0 args) K) (hb : fn.body = some c := by rfl) (hrs : fn.results.toList = rs := by rfl) (hl : args.length ≤ n := by exact Nat.le_of_ble_eq_true rfl) : CA P T0 T f args F K Q := CA.enter hT hf hb hn hrs hl h
section
variable {F F0 : Mem} {L : Slots} {K : Own} {s : List SI}
/-- the end of such a function -/
theorem outA.mk {T : List Nat} {Q : Value → List (Nat × Row) → Own → Prop} {v : Value} {Y : List (Nat × Row)} (K1 : Own) (hp : PlainRows Y) (hK : KSub K1 K) (h1 : tgK T K1 = true) (h2 : tgV T v = true) (hq : Q v Y K1) : outA F T Q v (F.add Y) K := ⟨Y, K1, rfl, hp, hK, h1, h2, hq⟩
theorem Mem.add_nil (F : Mem) : F.add [] = F := rfl
theorem rtA {Θ : Tab} {rs : List ResultVar} {T : List Nat} {Q : Value → List (Nat × Row) → Own → Prop} {v : Value} {P : Program} {N : Nat} {D : List Nat} (K1 : Own) (hq : Q v [] K1) (hr : resV Θ F L K rs = some v := by rfl) (hK : KSub K1 K := by repeat' first | exact trivial | refine And.intro rfl ?_) (h1 : tgK T K1 = true := by rfl) (h2 : tgV T v = true := by rfl) : J ⟨P, N, D, retR Θ rs (outA F T Q)⟩ (.code .ret :: s) F L K :=
  J.ret ⟨v, hr, [], K1, rfl, fun x hx => by (cases hx), hK, h1, h2, hq⟩
theorem reA {Θ : Tab} {rs : List ResultVar} {T : List Nat} {Q : Value → List (Nat × Row) → Own → Prop} {v : Value} {P : Program} {N : Nat} {D : List Nat} (K1 : Own) (hq : Q v [] K1) (hr : resV Θ F L K rs = some v := by rfl) (hK : KSub K1 K := by repeat' first | exact trivial | refine And.intro rfl ?_) (h1 : tgK T K1 = true := by rfl) (h2 : tgV T v = true := by rfl) : J ⟨P, N, D, retR Θ rs (outA F T Q)⟩ [] F L K :=
  J.fin ⟨v, hr, [], K1, rfl, fun x hx => by (cases hx), hK, h1, h2, hq⟩
theorem rtAY {Θ : Tab} {rs : List ResultVar} {T : List Nat} {Q : Value → List (Nat × Row) → Own → Prop} {v : Value} {P : Program} {N : Nat} {D : List Nat} {Y : List (Nat × Row)} (K1 : Own) (hp : PlainRows Y) (hq : Q v Y K1) (hr : resV Θ (F.add Y) L K rs = some v := by rfl) (hK : KSub K1 K := by repeat' first | exact trivial | refine And.intro rfl ?_) (h1 : tgK T K1 = true := by rfl) (h2 : tgV T v = true := by rfl) : J ⟨P, N, D, retR Θ rs (outA F T Q)⟩ (.code .ret :: s) (F.add Y) L K :=
  J.ret ⟨v, hr, Y, K1, rfl, hp, hK, h1, h2, hq⟩
theorem reAY {Θ : Tab} {rs : List ResultVar} {T : List Nat} {Q : Value → List (Nat × Row) → Own → Prop} {v : Value} {P : Program} {N : Nat} {D : List Nat} {Y : List (Nat × Row)} (K1 : Own) (hp : PlainRows Y) (hq : Q v Y K1) (hr : resV Θ (F.add Y) L K rs = some v := by rfl) (hK : KSub K1 K := by repeat' first | exact trivial | refine And.intro rfl ?_) (h1 : tgK T K1 = true := by rfl) (h2 : tgV T v = true := by rfl) : J ⟨P, N, D, retR Θ rs (outA F T Q)⟩ [] (F.add Y) L K :=
  J.fin ⟨v, hr, Y, K1, rfl, hp, hK, h1, h2, hq⟩
end
/-- some of the rows are told as the world's -/
theorem St.pushOn {ι : Nat → Nat} {K1 K2 : Own} {F : Mem} {w : World} (h : St F ι (K1 ++ K2) w) : St (Am.push ι K2 F) ι K1 w := by
  refine ⟨h.below, ?_, fun x hx => h.own x (List.mem_append_left _ hx), fun x hx => ?_⟩
  · have := h.nodup
    simpa [Am.push, Function.comp_def] using this
  · rcases List.mem_append.1 hx with hx | hx
    · obtain ⟨y, hy, rfl⟩ := List.mem_map.1 hx
      have := h.own y (List.mem_append_right _ hy)
      exact ⟨this.1, by rw [Row.c_r]; exact this.2.1⟩
    · exact h.ext x hx
theorem row_tg {ι κ : Nat → Nat} {D : List Nat} (hk : ∀ u ∈ D, κ u = ι u) {x : Nat × Row} (h : (D.contains x.1 && (x.2.flat || x.2.cs.all (tg1 D))) = true) (hf : x.2.flat = true → ∀ v ∈ x.2.cs, plain1 v = true) : κ x.1 = ι x.1 ∧ x.2.c κ = x.2.c ι := by
  simp only [Bool.and_eq_true, Bool.or_eq_true] at h
  refine ⟨hk _ (by simpa using h.1), ?_⟩
  rcases h.2 with h2 | h2
  · exact Row.c_flat _ _ (hf h2)
  · simp only [Row.c]
    congr 1
    exact List.map_congr_left fun v hv => c1_tg hk (List.all_eq_true.1 h2 v hv)
theorem St.pullOn {ι ι' κ : Nat → Nat} {K1 K2 K' : Own} {F : Mem} {Y : List (Nat × Row)} {w w' : World} {T D : List Nat} (h : St F ι (K1 ++ K2) w) (h' : St ((Am.push ι K2 F).add Y) ι' K' w') (hT : ∀ u ∈ T, κ u = ι' u) (hD : ∀ u ∈ D, κ u = ι u) (h1 : tgK T K' = true) (h2 : tgK D K2 = true) : St (F.add Y) κ (K' ++ K2) w' := by
  have e1 : ∀ x ∈ K', κ x.1 = ι' x.1 ∧ x.2.c κ = x.2.c ι' := fun x hx => row_tg hT (List.all_eq_true.1 h1 x hx) (h'.own x hx).2.2
  have e2 : ∀ x ∈ K2, κ x.1 = ι x.1 ∧ x.2.c κ = x.2.c ι := fun x hx => row_tg hD (List.all_eq_true.1 h2 x hx) (h.own x (List.mem_append_right _ hx)).2.2
  refine ⟨h'.below, ?_, fun x hx => ?_, fun x hx => ?_⟩
  · have hn := h'.nodup
    have m1 : (K'.map fun x => κ x.1) = K'.map fun x => ι' x.1 := List.map_congr_left fun x hx => (e1 x hx).1
    have m2 : (K2.map fun x => κ x.1) = K2.map fun x => ι x.1 := List.map_congr_left fun x hx => (e2 x hx).1
    simp only [Mem.add, Am.push, List.map_append, List.map_map, Function.comp_def, m1, m2] at hn ⊢
    refine (List.Perm.nodup_iff ?_).1 hn
    rw [List.append_assoc]
    refine List.Perm.append_left _ ?_
    rw [← List.append_assoc, ← List.append_assoc]
    exact List.Perm.append_right _ List.perm_append_comm
  · rcases List.mem_append.1 hx with hx | hx
    · obtain ⟨a1, a2⟩ := e1 x hx
      have := h'.own x hx
      rw [a1, a2]
      exact this
    · obtain ⟨a1, a2⟩ := e2 x hx
      have g := h'.ext (ι x.1, x.2.r ι) (List.mem_append_right _ (List.mem_append_left _ (List.mem_map.2 ⟨x, hx, rfl⟩)))
      rw [a1, a2]
      exact ⟨g.1, by have g2 := g.2; rwa [Row.c_r] at g2, (h.own x (List.mem_append_right _ hx)).2.2⟩
  · refine h'.ext x ?_
    rcases List.mem_append.1 hx with hx | hx
    · exact List.mem_append_left _ hx
    · exact List.mem_append_right _ (List.mem_append_right _ hx)
/-- what a caller knows behind such a call -/
theorem CA.frame {P : Program} {T0 T D : List Nat} {f : FuncId} {args : List Value} {F : Mem} {K K1 K2 : Own} {Q : Value → List (Nat × Row) → Own → Prop} (hK : KSub (K1 ++ K2) K) (hDT : (D.all fun t => !T.contains t || T0.contains t) = true) (hK2 : tgK D K2 = true)
    (h : ∀ ι, Val ι K2 F → F.le (push ι K2 F) → CA P T0 T f (args.map (rVx T0 ι)) (push ι K2 F) K1 Q) :
    AC P D f args F K (fun v F' K'' => ∃ Y K', F' = F.add Y ∧ K'' = K' ++ K2 ∧ PlainRows Y ∧ New F Y ∧ Q v Y K') := by
  intro ι w hS0
  have hS := hS0.weak hK
  have hS2 : St F ι K2 w := by
    have hnd := List.nodup_append.1 hS.nodup
    rw [List.map_append] at hnd
    refine ⟨hS.below, List.nodup_append.2 ⟨(List.nodup_append.1 hnd.1).2.1, hnd.2.1, fun a ha b hb => hnd.2.2 a (List.mem_append_right _ ha) b hb⟩, fun x hx => hS.own x (List.mem_append_right _ hx), hS.ext⟩
  have hc := h ι hS2.val hS2.val.le ι w hS.pushOn
  rw [map_cV_rVx] at hc
  refine hc.mono fun e w' ⟨ι', v, Y, K', h1, h2, h3, h4, h5, h6, h7⟩ => ?_
  have hT : ∀ u ∈ T, (fun t => if T.contains t then ι' t else ι t) u = ι' u := fun u hu => by
    have : T.contains u = true := by simpa using hu
    simp only [this, if_true]
  have hD : ∀ u ∈ D, (fun t => if T.contains t then ι' t else ι t) u = ι u := fun u hu => by
    have := List.all_eq_true.1 hDT u hu
    simp only [Bool.or_eq_true, Bool.not_eq_true'] at this
    rcases this with hc | hc
    · simp only [hc, Bool.false_eq_true, if_false]
    · by_cases ht : T.contains u = true
      · simp only [ht, if_true]; exact h2 u (by simpa using hc)
      · simp only [ht, Bool.false_eq_true, if_false]
  have hP := hS.pullOn h6 hT hD h3 hK2
  refine ⟨fun t => if T.contains t then ι' t else ι t, F.add Y, K' ++ K2, v, ?_, hP, hD, Y, K', rfl, rfl, h5, hP.new_ h5, h7⟩
  rw [h1, cV_tg hT h4]
section
variable {X : Cx} {F F0 : Mem} {L : Slots} {K K0 : Own} {s : List SI} {ops : Array Oper} {o : Oper} {l : List Oper}
theorem clA {f d : Nat} {cal : Operand} {args : Array Operand} {ts : Array TypeId} {fst cap : Array Value} {vs : List Value} (T0 T : List Nat) (D : List Nat) (Lk : Slots) (K1 K2 : Own) {Q : Value → List (Nat × Row) → Own → Prop}
    (hk : ∀ v Y K', Q v Y K' → PlainRows Y → New F Y → JL X ops l s (F.add Y) ((d, v) :: Lk) (K' ++ K2))
    (hg : o.guard = none := by rfl) (ho : o.op = .call ⟨.value cal, args, ts⟩ := by rfl) (hd : o.dst = some d := by rfl) (hN : d < X.N := by exact Nat.le_of_ble_eq_true rfl) (hcal : evO L cal = some (.func (.func f) fst cap) := by rfl) (hs : (fst.toList.all s0 && cap.toList.all s0) = true := by rfl) (hargs : mapE (evO L) args.toList = some vs := by rfl) (hfn : fnOk X.P f = true := by kernel_rfl)
    (hLk : LSub Lk L := by repeat' first | exact trivial | refine And.intro rfl ?_) (hKK : KSub (K1 ++ K2) K := by repeat' first | exact trivial | refine And.intro rfl ?_) (hL : (Lk.all fun x => tgV D x.2) = true := by rfl) (hDT : (D.all fun t => !T.contains t || T0.contains t) = true := by rfl) (hXD : (X.D.all fun t => D.contains t) = true := by rfl) (hK2 : tgK D K2 = true := by rfl)
    (h : ∀ ι, Val ι K2 F → F.le (push ι K2 F) → CA X.P T0 T f ((fst.toList ++ vs ++ cap.toList).map (rVx T0 ι)) (push ι K2 F) K1 Q) : JL X ops (o :: l) s F L K := by
  intro ι a w hF hS
  refine wpList_plain hg fun Kc hKc => ?_
  simp only [Oper.wp, callee_run (e := evO L) (fun x u hu => hF.ev hu) ho hcal hs hargs hfn w, Oper.upon]
  refine ((CA.frame hKK hDT hK2 h) ι w hS).mono fun e w' ⟨ι', F', K', v, h1, h2, h3, Y, K3, e1, e2, h4, h5, h6⟩ => ?_
  subst h1 e1 e2
  have hF0 := hF.weak hLk
  have hF' : Fr X.N ι' Lk a := ⟨hF0.size, hF0.defers, fun s v hv => by rw [cV_tg h3 (List.all_eq_true.1 hL _ (lookup_mem hv))]; exact hF0.slot s v hv⟩
  refine hKc _ _ (JL.tr (ι1 := ι') (fun t ht => h3 t (by simpa using List.all_eq_true.1 hXD t ht)) (hk v Y K3 h6 h4 h5 ι' _ w' ?_ h2))
  rw [hd]
  exact hF'.put hN v
/-- .. that leaves nothing -/
theorem clA0 {f : Nat} {cal : Operand} {args : Array Operand} {ts : Array TypeId} {fst cap : Array Value} {vs : List Value} (T0 T : List Nat) (D : List Nat) (Lk : Slots) (K1 K2 : Own) {Q : Value → List (Nat × Row) → Own → Prop}
    (hk : ∀ v Y K', Q v Y K' → PlainRows Y → New F Y → JL X ops l s (F.add Y) Lk (K' ++ K2))
    (hg : o.guard = none := by rfl) (ho : o.op = .call ⟨.value cal, args, ts⟩ := by rfl) (hd : o.dst = none := by rfl) (hcal : evO L cal = some (.func (.func f) fst cap) := by rfl) (hs : (fst.toList.all s0 && cap.toList.all s0) = true := by rfl) (hargs : mapE (evO L) args.toList = some vs := by rfl) (hfn : fnOk X.P f = true := by kernel_rfl)
    (hLk : LSub Lk L := by repeat' first | exact trivial | refine And.intro rfl ?_) (hKK : KSub (K1 ++ K2) K := by repeat' first | exact trivial | refine And.intro rfl ?_) (hL : (Lk.all fun x => tgV D x.2) = true := by rfl) (hDT : (D.all fun t => !T.contains t || T0.contains t) = true := by rfl) (hXD : (X.D.all fun t => D.contains t) = true := by rfl) (hK2 : tgK D K2 = true := by rfl)
    (h : ∀ ι, Val ι K2 F → F.le (push ι K2 F) → CA X.P T0 T f ((fst.toList ++ vs ++ cap.toList).map (rVx T0 ι)) (push ι K2 F) K1 Q) : JL X ops (o :: l) s F L K := by
  intro ι a w hF hS
  refine wpList_plain hg fun Kc hKc => ?_
  simp only [Oper.wp, callee_run (e := evO L) (fun x u hu => hF.ev hu) ho hcal hs hargs hfn w, Oper.upon]
  refine ((CA.frame hKK hDT hK2 h) ι w hS).mono fun e w' ⟨ι', F', K', v, h1, h2, h3, Y, K3, e1, e2, h4, h5, h6⟩ => ?_
  subst h1 e1 e2
  have hF0 := hF.weak hLk
  have hF' : Fr X.N ι' Lk a := ⟨hF0.size, hF0.defers, fun s v hv => by rw [cV_tg h3 (List.all_eq_true.1 hL _ (lookup_mem hv))]; exact hF0.slot s v hv⟩
  refine hKc _ _ (JL.tr (ι1 := ι') (fun t ht => h3 t (by simpa using List.all_eq_true.1 hXD t ht)) (hk v Y K3 h6 h4 h5 ι' _ w' ?_ h2))
  rw [hd]
  exact hF'.putNone _
/-- .. behind a guard that lets it run -/
theorem clgA {f d j e : Nat} {want : Bool} {cal : Operand} {args : Array Operand} {ts : Array TypeId} {fst cap : Array Value} {vs : List Value} (T0 T : List Nat) (D : List Nat) (Lk : Slots) (K1 K2 : Own) {Q : Value → List (Nat × Row) → Own → Prop}
    (hk : ∀ v Y K', Q v Y K' → PlainRows Y → New F Y → JL X ops l s (F.add Y) ((d, v) :: Lk) (K' ++ K2))
    (hg : o.guard = some (j, want) := by rfl) (hj : (ops[j]?).bind (·.dst) = some e := by rfl) (hb : L.lookup e = some (.bool want) := by rfl) (ho : o.op = .call ⟨.value cal, args, ts⟩ := by rfl) (hd : o.dst = some d := by rfl) (hN : d < X.N := by exact Nat.le_of_ble_eq_true rfl) (hcal : evO L cal = some (.func (.func f) fst cap) := by rfl) (hs : (fst.toList.all s0 && cap.toList.all s0) = true := by rfl) (hargs : mapE (evO L) args.toList = some vs := by rfl) (hfn : fnOk X.P f = true := by kernel_rfl)
    (hLk : LSub Lk L := by repeat' first | exact trivial | refine And.intro rfl ?_) (hKK : KSub (K1 ++ K2) K := by repeat' first | exact trivial | refine And.intro rfl ?_) (hL : (Lk.all fun x => tgV D x.2) = true := by rfl) (hDT : (D.all fun t => !T.contains t || T0.contains t) = true := by rfl) (hXD : (X.D.all fun t => D.contains t) = true := by rfl) (hK2 : tgK D K2 = true := by rfl)
    (h : ∀ ι, Val ι K2 F → F.le (push ι K2 F) → CA X.P T0 T f ((fst.toList ++ vs ++ cap.toList).map (rVx T0 ι)) (push ι K2 F) K1 Q) : JL X ops (o :: l) s F L K := by
  intro ι a w hF hS
  unfold wpList
  rw [if_pos (by rw [JL.wanted hF hg hj hb]; simp)]
  left
  simp only [Oper.wp, callee_run (e := evO L) (fun x u hu => hF.ev hu) ho hcal hs hargs hfn w, Oper.upon]
  refine ((CA.frame hKK hDT hK2 h) ι w hS).mono fun e w' ⟨ι', F', K', v, h1, h2, h3, Y, K3, e1, e2, h4, h5, h6⟩ => ?_
  subst h1 e1 e2
  have hF0 := hF.weak hLk
  have hF' : Fr X.N ι' Lk a := ⟨hF0.size, hF0.defers, fun s v hv => by rw [cV_tg h3 (List.all_eq_true.1 hL _ (lookup_mem hv))]; exact hF0.slot s v hv⟩
  refine JL.tr (ι1 := ι') (fun t ht => h3 t (by simpa using List.all_eq_true.1 hXD t ht)) (hk v Y K3 h6 h4 h5 ι' _ w' ?_ h2)
  rw [hd]
  exact hF'.put hN v
/-- a row gets another tag: all that speaks of it is told anew -/
theorem JL.retagP {d t u : Nat} {off : Nat} {r : Row} (Lk : Slots) (Kk : Own) (h : JL X ops l s F ((d, .pointer (some ⟨u, off, some 0⟩)) :: Lk) ((u, r) :: Kk)) (hd : L.lookup d = some (.pointer (some ⟨t, off, some 0⟩)) := by rfl) (hr : K.lookup t = some r := by rfl)
    (hLk : LSub Lk L := by repeat' first | exact trivial | refine And.intro rfl ?_) (hKk : KSub ((t, r) :: Kk) K := by repeat' first | exact trivial | refine And.intro rfl ?_) (hL : ntL u Lk = true := by rfl) (hK : ntK u Kk = true := by rfl) (hru : (r.flat || r.cs.all (nt1 u)) = true := by rfl) (hD : X.D.contains u = false := by rfl) : JL X ops l s F L K := by
  intro ι a w hF hS
  have hS1 := hS.weak hKk
  have hagree : ∀ v ∈ X.D, upd ι u (ι t) v = ι v := fun v hv => upd_ne ι (fun e => by subst e; simp at hD; exact hD hv)
  refine JL.tr hagree (h (upd ι u (ι t)) a w ?_ (hS1.retag hK hru))
  have hF0 := hF.weak hLk
  refine ⟨hF.size, hF.defers, fun s v hv => ?_⟩
  rw [List.lookup_cons] at hv
  split at hv
  · rename_i e
    have e1 : s = d := by simpa using e
    subst e1
    simp only [Option.some.injEq] at hv
    subst hv
    have := hF.slot s _ hd
    simpa [upd_eq] using this
  · have e1 := (hF0.nt (κ := upd ι u (ι t)) (t := u) (fun v hv => upd_ne ι hv) hL).slot s v hv
    exact e1
end
end Go.Proofs.Ytfcckfiipbdnkaa.Am
namespace Go.Proofs.Ytfcckfiipbdnkaa.Am
set_option linter.unusedSimpArgs false
set_option linter.unusedVariables false
open Go Go.RowKit
/-! Numbers, appended; rows of one's own that a callee reads. -/
section
variable {X : Cx} {F : Mem} {L : Slots} {K : Own} {s : List SI} {ops : Array Oper} {o : Oper} {l : List Oper}
theorem ivs_nt (xs : List Int) (t : Nat) : (ivs xs).all (nt1 t) = true := List.all_eq_true.2 fun v hv => by obtain ⟨y, _, rfl⟩ := List.mem_map.1 hv; rfl
theorem ivs_one (xs : List Int) : ∀ v ∈ ivs xs, v.oneCell' = true := fun v hv => by obtain ⟨y, _, rfl⟩ := List.mem_map.1 hv; rfl
theorem St.flat {F : Mem} {ι : Nat → Nat} {K : Own} {w : World} {u : Nat} {r : Row} (h : St F ι ((u, r) :: K) w) (hp : ∀ v ∈ r.cs, plain1 v = true) : St F ι ((u, { r with flat := true }) :: K) w := by
  refine ⟨h.below, h.nodup, fun x hx => ?_, h.ext⟩
  rcases List.mem_cons.1 hx with rfl | hx
  · have := h.own _ List.mem_cons_self
    exact ⟨this.1, this.2.1, fun _ => hp⟩
  · exact h.own x (List.mem_cons_of_mem _ hx)
theorem JL.flat {u : Nat} {r : Row} (hp : ∀ v ∈ r.cs, plain1 v = true) (h : JL X ops l s F L ((u, { r with flat := true }) :: K)) : JL X ops l s F L ((u, r) :: K) := fun ι a w hF hS => h ι a w hF (hS.flat hp)
theorem ivs_pl (xs : List Int) : ∀ v ∈ ivs xs, plain1 v = true := fun v hv => by obtain ⟨y, _, rfl⟩ := List.mem_map.1 hv; rfl
/-- all of a told slice of numbers, appended to an own row of numbers -/
theorem apIs {Θ : Tab} {ty ty' el : TypeId} {sx x : Operand} {d n c : Nat} {ti ti' tj : Ty} {xv : Value} {ys xs : List Int} {r : Row} (t u : Nat) (Lk : Slots) (Kk : Own) (hI : RInts F xv xs)
    (hk : ∀ cap, ys.length + xs.length ≤ cap → cap ≤ 9223372036854775807 → JL X ops l s F ((d, .slice (some ⟨u, 0, some 0⟩) (ys.length + xs.length) cap) :: Lk) ((u, { elem := el, cs := ivs (ys ++ xs), room := cap * 1, fz := r.fz, flat := true }) :: Kk))
    (hg : o.guard = none := by rfl) (ho : o.op = .call ⟨.builtin .append, #[sx, x], #[ty, ty']⟩ := by rfl) (hd : o.dst = some d := by rfl) (hN : d < X.N := by exact Nat.le_of_ble_eq_true rfl) (hθ : tabOk X.P Θ = true := by exact hT)
    (hi : Θ.lookup ty = some ti := by rfl) (hki : ti.k = .slice el := by rfl) (hi' : Θ.lookup ty' = some ti' := by rfl) (hk' : slB ti'.k = true := by rfl) (hj : Θ.lookup el = some tj := by rfl) (hz0 : tj.zero.length = tj.size := by rfl) (hsz : tj.size = 1 := by rfl) (hby8 : tj.bytes = 8 := by rfl)
    (hs : evO L sx = some (.slice (some ⟨u, 0, some 0⟩) n c) := by rfl) (hx : evO L x = some xv := by rfl) (hr : K.lookup u = some r := by rfl) (hcs : r.cs = ivs ys := by rfl) (hLk : LSub Lk L := by repeat' first | exact trivial | refine And.intro rfl ?_) (hKk : KSub Kk K := by repeat' first | exact trivial | refine And.intro rfl ?_)
    (hn : n = ys.length := by first | rfl | omega) (hroom : r.room = c * 1 := by rfl) (hel : r.elem = el := by rfl) (hnc : n ≤ c := by first | exact Nat.le_of_ble_eq_true rfl | omega) (hcm : c ≤ 9223372036854775807 := by first | exact Nat.le_of_ble_eq_true rfl | omega)
    (hby : (ys.length + xs.length) * 8 ≤ 140737488355328 := by (try simp only [List.length_nil]); omega)
    (hL : ntL t L = true := by rfl) (hK : ntK t K = true := by rfl) (hD : X.D.contains t = false := by rfl) (hDu : X.D.contains u = false := by rfl) (hdk : (Lk.all fun x => x.1 != d) = true := by rfl) (hKu : ntK u Kk = true := by rfl) (hKt : ntK t Kk = true := by rfl) (hLu : ntL u Lk = true := by rfl) : JL X ops (o :: l) s F L K := by
  subst hn
  rcases Nat.eq_zero_or_pos xs.length with hz | hz
  · have hxs : xs = [] := List.eq_nil_of_length_eq_zero hz
    subst hxs
    have happ : App X.P F K tj.size xv 0 [] := by
      rcases hI with ⟨b, off, c', rfl, _, _⟩ | ⟨rfl, _⟩
      · exact App.slice (by simp [rdN, lookN]) (fun v hv => by cases hv) (by simp)
      · exact App.nil _ _
    refine ap0 ?_ hg ho hd hN hθ hi hki hi' hk' hj hs hx happ hnc
    have h1 := hk c (by simpa using hnc) hcm
    rw [List.append_nil, List.length_nil, Nat.add_zero] at h1
    have h2 : JL X ops l s F ((d, .slice (some ⟨u, 0, some 0⟩) ys.length c) :: Lk) ((u, { r with cs := ivs ys }) :: Kk) := by
      refine JL.flat (ivs_pl ys) ?_
      rw [← hel]at h1
      have e : r.room = c * 1 := hroom
      rw [← e] at h1
      exact h1
    refine JL.weak (hLk.cons hdk) ?_ h2
    refine KSub.of_all ?_ ?_
    · have := hKk.tags
      simp only [List.map_cons, List.nodup_cons]
      refine ⟨fun hm => ?_, this⟩
      obtain ⟨y, hy, e⟩ := List.mem_map.1 hm
      have h2 := List.all_eq_true.1 hKu y hy
      simp only [Bool.and_eq_true, bne_iff_ne, ne_eq] at h2
      exact h2.1 e
    · intro y hy
      rcases List.mem_cons.1 hy with rfl | hy
      · rw [hr, ← hcs]
      · exact hKk.mem y hy
  · rcases hI with ⟨b, off, c', rfl, h63, hrd⟩ | ⟨rfl, rfl⟩
    · have happ : App X.P F K tj.size (.slice (some ⟨b, off, none⟩) xs.length c') xs.length (ivs xs) := by
        rw [hsz]
        refine App.slice ?_ (ivs_one xs) (by rw [ivs_length, Nat.mul_one])
        rw [Nat.mul_one]
        exact lookN_ints hrd
      refine apO (m := xs.length) (news := ivs xs) t u Lk Kk ?_ hg ho hd hN hθ hi hki hi' hk' hj hz0 (by omega) hs hx hr happ hLk hKk (by rw [hsz]; exact hroom) hel (by rw [hcs, ivs_length, hsz, Nat.mul_one]) hnc hcm hz (by omega) (by rw [hby8]; exact hby) (fun _ => List.all_eq_true.2 fun v hv => by obtain ⟨y, _, rfl⟩ := List.mem_map.1 hv; rfl) hL hK (ivs_nt _ _) hD hDu hdk hKu hKt hLu (by rw [hcs, ← ivs_append, ivs_nt, Bool.or_true])
      intro cap hc1 hc2
      rw [hcs, ← ivs_append, hsz]
      exact JL.flat (ivs_pl _) (hk cap hc1 hc2)
    · simp at hz
end
theorem apIs0 {X : Cx} {F : Mem} {L : Slots} {K : Own} {s : List SI} {ops : Array Oper} {o : Oper} {l : List Oper} {Θ : Tab} {ty ty' el : TypeId} {sx x : Operand} {d c : Nat} {ti ti' tj : Ty} {xv : Value} {xs : List Int} {r : Row} (t u : Nat) (Lk : Slots) (Kk : Own) (hI : RInts F xv xs)
    (hk : ∀ cap, xs.length ≤ cap → cap ≤ 9223372036854775807 → JL X ops l s F ((d, .slice (some ⟨u, 0, some 0⟩) xs.length cap) :: Lk) ((u, { elem := el, cs := ivs xs, room := cap * 1, fz := r.fz, flat := true }) :: Kk))
    (hg : o.guard = none := by rfl) (ho : o.op = .call ⟨.builtin .append, #[sx, x], #[ty, ty']⟩ := by rfl) (hd : o.dst = some d := by rfl) (hN : d < X.N := by exact Nat.le_of_ble_eq_true rfl) (hθ : tabOk X.P Θ = true := by exact hT)
    (hi : Θ.lookup ty = some ti := by rfl) (hki : ti.k = .slice el := by rfl) (hi' : Θ.lookup ty' = some ti' := by rfl) (hk' : slB ti'.k = true := by rfl) (hj : Θ.lookup el = some tj := by rfl) (hz0 : tj.zero.length = tj.size := by rfl) (hsz : tj.size = 1 := by rfl) (hby8 : tj.bytes = 8 := by rfl)
    (hs : evO L sx = some (.slice (some ⟨u, 0, some 0⟩) 0 c) := by rfl) (hx : evO L x = some xv := by rfl) (hr : K.lookup u = some r := by rfl) (hcs : r.cs = [] := by rfl) (hLk : LSub Lk L := by repeat' first | exact trivial | refine And.intro rfl ?_) (hKk : KSub Kk K := by repeat' first | exact trivial | refine And.intro rfl ?_)
    (hroom : r.room = c * 1 := by rfl) (hel : r.elem = el := by rfl) (hcm : c ≤ 9223372036854775807 := by first | exact Nat.le_of_ble_eq_true rfl | omega)
    (hby : xs.length * 8 ≤ 140737488355328 := by omega)
    (hL : ntL t L = true := by rfl) (hK : ntK t K = true := by rfl) (hD : X.D.contains t = false := by rfl) (hDu : X.D.contains u = false := by rfl) (hdk : (Lk.all fun x => x.1 != d) = true := by rfl) (hKu : ntK u Kk = true := by rfl) (hKt : ntK t Kk = true := by rfl) (hLu : ntL u Lk = true := by rfl) : JL X ops (o :: l) s F L K := by
  refine apIs (ys := []) t u Lk Kk hI (fun cap h1 h2 => ?_) hg ho hd hN hθ hi hki hi' hk' hj hz0 hsz hby8 hs hx hr hcs hLk hKk rfl hroom hel (Nat.zero_le _) hcm (by simpa using hby) hL hK hD hDu hdk hKu hKt hLu
  have := hk cap (by simpa using h1) h2
  rw [List.length_nil, Nat.zero_add, List.nil_append]
  exact this
theorem Val.intsR {ι : Nat → Nat} {K : Own} {F : Mem} (h : Val ι K F) {t : Nat} {r : Row} {xs : List Int} {n c : Nat} (hr : K.lookup t = some r) (hcs : r.cs = ivs xs) (hn : n = xs.length) (hl : xs.length ≤ 9223372036854775807) : RInts (push ι K F) (.slice (some ⟨ι t, 0, none⟩) n c) xs := by
  subst hn
  refine .inl ⟨_, _, _, rfl, hl, fun i x hx => ?_⟩
  have := h.look hr (o := i) (v := .int .i64 x) (by rw [hcs]; exact ivs_get hx)
  rw [Nat.zero_add]
  exact this
end Go.Proofs.Ytfcckfiipbdnkaa.Am
namespace Go.Proofs.Ytfcckfiipbdnkaa.Am
set_option linter.unusedSimpArgs false
set_option linter.unusedVariables false
open Go Go.RowKit
/-! Dividing numbers of two words. -/
def ltab : ByteArray := ⟨#[0, 1, 2, 2, 3, 3, 3, 3, 4, 4, 4, 4, 4, 4, 4, 4, 5, 5, 5, 5, 5, 5, 5, 5, 5, 5, 5, 5, 5, 5, 5, 5, 6, 6, 6, 6, 6, 6, 6, 6, 6, 6, 6, 6, 6, 6, 6, 6, 6, 6, 6, 6, 6, 6, 6, 6, 6, 6, 6, 6, 6, 6, 6, 6, 7, 7, 7, 7, 7, 7, 7, 7, 7, 7, 7, 7, 7, 7, 7, 7, 7, 7, 7, 7, 7, 7, 7, 7, 7, 7, 7, 7, 7, 7, 7, 7, 7, 7, 7, 7, 7, 7, 7, 7, 7, 7, 7, 7, 7, 7, 7, 7, 7, 7, 7, 7, 7, 7, 7, 7, 7, 7, 7, 7, 7, 7, 7, 7, 8, 8, 8, 8, 8, 8, 8, 8, 8, 8, 8, 8, 8, 8, 8, 8, 8, 8, 8, 8, 8, 8, 8, 8, 8, 8, 8, 8, 8, 8, 8, 8, 8, 8, 8, 8, 8, 8, 8, 8, 8, 8, 8, 8, 8, 8, 8, 8, 8, 8, 8, 8, 8, 8, 8, 8, 8, 8, 8, 8, 8, 8, 8, 8, 8, 8, 8, 8, 8, 8, 8, 8, 8, 8, 8, 8, 8, 8, 8, 8, 8, 8, 8, 8, 8, 8, 8, 8, 8, 8, 8, 8, 8, 8, 8, 8, 8, 8, 8, 8, 8, 8, 8, 8, 8, 8, 8, 8, 8, 8, 8, 8, 8, 8, 8, 8, 8, 8, 8, 8, 8, 8, 8, 8, 8, 8, 8, 8]⟩
theorem ltab_pow : ∀ n : Fin 256, 0 < n.val → 0 < byteAt ltab n.val ∧ byteAt ltab n.val ≤ 8 ∧ n.val < 2 ^ (byteAt ltab n.val).toNat ∧ 2 ^ ((byteAt ltab n.val).toNat - 1) ≤ n.val := by decide +kernel
theorem ltab_int (x : Int) (h0 : 0 < x) (h1 : x < 256) : 0 < byteAt ltab x.toNat ∧ byteAt ltab x.toNat ≤ 8 ∧ x < 2 ^ (byteAt ltab x.toNat).toNat ∧ 2 ^ ((byteAt ltab x.toNat).toNat - 1) ≤ x := by
  obtain ⟨n, rfl⟩ := Int.eq_ofNat_of_zero_le (Int.le_of_lt h0)
  have h := ltab_pow ⟨n, by omega⟩ (by simpa using h0)
  rw [Int.toNat_natCast]
  refine ⟨h.1, h.2.1, ?_, ?_⟩
  · exact_mod_cast h.2.2.1
  · exact_mod_cast h.2.2.2
def IsLen (x L : Int) : Prop := 0 < L ∧ x < 2 ^ L.toNat ∧ 2 ^ (L.toNat - 1) ≤ x
theorem isLen_up {x L : Int} (c : Nat) (h : IsLen (x / 2 ^ c) L) : IsLen x (L + c) := by
  obtain ⟨h0, h1, h2⟩ := h
  have hp : (0 : Int) < 2 ^ c := Int.pow_pos (by decide)
  have e1 : (L + c).toNat = L.toNat + c := by omega
  have e2 : (L + c).toNat - 1 = (L.toNat - 1) + c := by omega
  refine ⟨by omega, ?_, ?_⟩
  · rw [e1, Int.pow_add]
    exact (Int.ediv_lt_iff_lt_mul hp).1 h1
  · rw [e2, Int.pow_add]
    exact (Int.le_ediv_iff_mul_le hp).1 h2
theorem isLen_tab {x : Int} (h0 : 0 < x) (h1 : x < 256) : IsLen x (byteAt ltab x.toNat) := by
  have h := ltab_int x h0 h1
  exact ⟨h.1, h.2.2.1, h.2.2.2⟩
theorem dig_hi {u yn1 yn0 un1 q rh Y : Int} (hY : Y = yn1 * 4294967296 + yn0) (hp : 0 < Y) (hq : q * yn1 + rh = u) (h : 4294967296 * rh + un1 < q * yn0) : (u * 4294967296 + un1) / Y < q := by
  rw [Int.ediv_lt_iff_lt_mul hp, hY]
  have e : q * (yn1 * 4294967296 + yn0) = (q * yn1) * 4294967296 + q * yn0 := by grind
  rw [e]; omega
theorem dig_lo {u yn1 yn0 un1 q rh Y : Int} (hY : Y = yn1 * 4294967296 + yn0) (hp : 0 < Y) (hq : q * yn1 + rh = u) (h : q * yn0 ≤ 4294967296 * rh + un1) : q ≤ (u * 4294967296 + un1) / Y := by
  rw [Int.le_ediv_iff_mul_le hp, hY]
  have e : q * (yn1 * 4294967296 + yn0) = (q * yn1) * 4294967296 + q * yn0 := by grind
  rw [e]; omega
theorem dig_lt {u un1 Y : Int} (hp : 0 < Y) (hu : u < Y) (h1 : un1 < 4294967296) : (u * 4294967296 + un1) / Y < 4294967296 := by
  rw [Int.ediv_lt_iff_lt_mul hp]
  have : (u + 1) * 4294967296 ≤ Y * 4294967296 := Int.mul_le_mul_of_nonneg_right (by omega) (by omega)
  have e : (u + 1) * 4294967296 = u * 4294967296 + 4294967296 := by grind
  rw [e] at this
  rw [Int.mul_comm 4294967296 Y]
  omega
theorem dig_guess {u yn1 yn0 Y : Int} (hY : Y = yn1 * 4294967296 + yn0) (h1 : 2147483648 ≤ yn1) (h0 : yn0 < 4294967296) (hu : u < Y) : u / yn1 ≤ 4294967297 := by
  have : u / yn1 < 4294967298 := by
    rw [Int.ediv_lt_iff_lt_mul (by omega)]
    omega
  omega
theorem mulq_bd {q y : Int} (hq0 : 0 ≤ q) (hq : q ≤ 4294967297) (hy0 : 0 ≤ y) (hy : y < 4294967296) : 0 ≤ q * y ∧ q * y ≤ 18446744073709551615 := by
  constructor
  · exact Int.mul_nonneg hq0 hy0
  · have := Int.mul_le_mul hq (show y ≤ 4294967295 by omega) hy0 (by omega : (0 : Int) ≤ 4294967297)
    omega
theorem dig_nonneg {u un1 Y : Int} (hp : 0 < Y) (hu0 : 0 ≤ u) (h1 : 0 ≤ un1) : 0 ≤ (u * 4294967296 + un1) / Y := Int.ediv_nonneg (by omega) (by omega)

theorem shift_parts {hi lo : Int} {s : Nat} (h0 : 0 ≤ lo) (h1 : lo < 18446744073709551616) (hs : s ≤ 63) :
    (hi * 18446744073709551616 + lo) * 2 ^ s = ((hi * 2 ^ s + lo / 2 ^ (64 - s)) * 4294967296 + lo * 2 ^ s % 18446744073709551616 / 4294967296) * 4294967296 + lo * 2 ^ s % 18446744073709551616 % 4294967296 := by
  have hw : (18446744073709551616 : Int) = 2 ^ (64 - s) * 2 ^ s := by
    rw [← Int.pow_add, show 64 - s + s = 64 from by omega]; rfl
  have e1 : lo * 2 ^ s / 18446744073709551616 = lo / 2 ^ (64 - s) := by
    rw [hw]
    exact Int.mul_ediv_mul_of_pos_left _ _ (Int.pow_pos (by decide))
  have e2 := Int.mul_ediv_add_emod (lo * 2 ^ s) 18446744073709551616
  rw [e1] at e2
  have e3 : (hi * 18446744073709551616 + lo) * 2 ^ s = hi * 2 ^ s * 18446744073709551616 + lo * 2 ^ s := by grind
  rw [e3]
  generalize hi * 2 ^ s = H at *
  generalize lo * 2 ^ s = L at *
  generalize lo / 2 ^ (64 - s) = K at *
  omega
theorem shr_low {lo : Int} {s : Nat} (h0 : 0 ≤ lo) (h1 : lo < 18446744073709551616) (hs : s ≤ 63) : 0 ≤ lo / 2 ^ (64 - s) ∧ lo / 2 ^ (64 - s) < 2 ^ s := by
  constructor
  · exact Int.ediv_nonneg h0 (Int.le_of_lt (Int.pow_pos (by decide)))
  · rw [Int.ediv_lt_iff_lt_mul (Int.pow_pos (by decide)), ← Int.pow_add, show s + (64 - s) = 64 from by omega]; omega
theorem pow_le63 {s : Nat} (hs : s ≤ 63) : (1 : Int) ≤ 2 ^ s ∧ (2 : Int) ^ s ≤ 9223372036854775808 := by
  have h1 : (2 : Nat) ^ s ≤ 9223372036854775808 := Nat.le_trans (Nat.pow_le_pow_right (by decide) hs) (by decide)
  have h2 : 1 ≤ (2 : Nat) ^ s := Nat.one_le_two_pow
  have h3 : (((2 : Nat) ^ s : Nat) : Int) = (2 : Int) ^ s := by rw [Int.natCast_pow]; rfl
  rw [← h3]
  generalize (2 : Nat) ^ s = n at *
  omega
theorem two_digits {U n1 n0 Y : Int} (hp : 0 < Y) : (U * 4294967296 + n1) / Y * 4294967296 + ((U * 4294967296 + n1) % Y * 4294967296 + n0) / Y = ((U * 4294967296 + n1) * 4294967296 + n0) / Y ∧ ((U * 4294967296 + n1) % Y * 4294967296 + n0) % Y = ((U * 4294967296 + n1) * 4294967296 + n0) % Y := by
  have hd := Int.mul_ediv_add_emod (U * 4294967296 + n1) Y
  generalize (U * 4294967296 + n1) / Y = q at *
  generalize (U * 4294967296 + n1) % Y = r at *
  have e : (U * 4294967296 + n1) * 4294967296 + n0 = (r * 4294967296 + n0) + q * 4294967296 * Y := by rw [← hd]; grind
  rw [e]
  constructor
  · rw [Int.add_mul_ediv_right _ _ (by omega)]; omega
  · rw [Int.add_mul_emod_self_right]
theorem big_q {P c : Int} (hc : 1 ≤ c) (h : P / 18446744073709551616 ≥ c) : 18446744073709551616 ≤ P / c := by
  rw [Int.le_ediv_iff_mul_le (by omega)]
  have := Int.mul_le_mul_of_nonneg_left h (show (0 : Int) ≤ 18446744073709551616 by omega)
  omega
theorem near_pos {P c : Int} (hc : 0 < c) : (2 * P + c) / (2 * c) = P / c + (if 2 * (P % c) ≥ c then 1 else 0) := by
  have hd := Int.mul_ediv_add_emod P c
  have h0 := Int.emod_nonneg P (by omega : c ≠ 0)
  have h1 := Int.emod_lt_of_pos P hc
  generalize P / c = q at *
  generalize P % c = r at *
  by_cases h : 2 * r ≥ c
  · rw [if_pos h]
    have e : 2 * P + c = (2 * r - c) + (q + 1) * (2 * c) := by rw [← hd]; grind
    rw [e, Int.add_mul_ediv_right _ _ (by omega), Int.ediv_eq_zero_of_lt (by omega) (by omega)]; omega
  · rw [if_neg h]
    have e : 2 * P + c = (2 * r + c) + q * (2 * c) := by rw [← hd]; grind
    rw [e, Int.add_mul_ediv_right _ _ (by omega), Int.ediv_eq_zero_of_lt (by omega) (by omega)]; omega
theorem near_neg {P c : Int} (hc : 0 < c) : (2 * (-P) + c) / (2 * c) = -(P / c + (if 2 * (P % c) > c then 1 else 0)) := by
  have hd := Int.mul_ediv_add_emod P c
  have h0 := Int.emod_nonneg P (by omega : c ≠ 0)
  have h1 := Int.emod_lt_of_pos P hc
  generalize P / c = q at *
  generalize P % c = r at *
  by_cases h : 2 * r > c
  · rw [if_pos h]
    have e : 2 * (-P) + c = (3 * c - 2 * r) + (-q - 1) * (2 * c) := by rw [← hd]; grind
    rw [e, Int.add_mul_ediv_right _ _ (by omega), Int.ediv_eq_zero_of_lt (by omega) (by omega)]; omega
  · rw [if_neg h]
    have e : 2 * (-P) + c = (c - 2 * r) + (-q) * (2 * c) := by rw [← hd]; grind
    rw [e, Int.add_mul_ediv_right _ _ (by omega), Int.ediv_eq_zero_of_lt (by omega) (by omega)]; omega
section
variable {F : Mem} {K : Own} {L : Slots}
theorem suQ {t t' : TypeId} {x y : Operand} {a b : Int} (hx : evO L x = some (.int .u64 a) := by rfl) (hy : evO L y = some (.int .u64 b) := by rfl) (h0 : 0 ≤ a := by omega) (h1 : a < 18446744073709551616 := by omega) (h2 : 0 < b := by omega) : SD Try.prog F K L (.binOp .quo t x y t') (.int .u64 (a / b)) := by
  intro ι ρ he o' ho w _
  obtain ⟨dst, op, type, pos, after, guard⟩ := o'
  simp only at ho
  subst ho
  have e1 : IntKind.u64.wrap (a.tdiv b) = a / b := by
    rw [Int.tdiv_eq_ediv_of_nonneg h0]
    have g1 := Int.ediv_nonneg h0 (Int.le_of_lt h2)
    have g2 := Int.ediv_le_self b h0
    exact wraps_u64 _ g1 (by omega)
  have hb0 : b ≠ 0 := by omega
  simp [execOp, he _ _ hx, he _ _ hy, binOp, eqGuard, Op.intDiv, hb0, e1]
theorem suR {t t' : TypeId} {x y : Operand} {a b : Int} (hx : evO L x = some (.int .u64 a) := by rfl) (hy : evO L y = some (.int .u64 b) := by rfl) (h0 : 0 ≤ a := by omega) (h2 : 0 < b := by omega) : SD Try.prog F K L (.binOp .rem t x y t') (.int .u64 (a % b)) := by
  intro ι ρ he o' ho w _
  obtain ⟨dst, op, type, pos, after, guard⟩ := o'
  simp only at ho
  subst ho
  have hb0 : b ≠ 0 := by omega
  simp [execOp, he _ _ hx, he _ _ hy, binOp, eqGuard, Op.intDiv, hb0, Int.tmod_eq_emod_of_nonneg h0]
end
theorem u64_orJ (s : Nat) (x y : Int) (h0 : 0 ≤ x) (hm : x % 2 ^ s = 0) (h1 : x < 18446744073709551616) (g0 : 0 ≤ y) (g1 : y < 2 ^ s) (h2 : x + y < 18446744073709551616) : Go.bits .or .u64 x y = x + y :=
  bits_join .u64 64 (by decide) wraps_u64 s _ _ h0 hm (by omega) g0 g1 (by omega)
/-- the guess is not below the digit -/
theorem dig_top {U n Y : Int} (hY : Y = Y / 4294967296 * 4294967296 + Y % 4294967296) (h1 : 2147483648 ≤ Y / 4294967296) (h0 : 0 ≤ Y % 4294967296) (hU : 0 ≤ U) (hn : n < 4294967296) : (U * 4294967296 + n) / Y ≤ U / (Y / 4294967296) := by
  have hmr := Int.mul_ediv_add_emod U (Y / 4294967296)
  have hmr1 := Int.emod_lt_of_pos U (show 0 < Y / 4294967296 by omega)
  have hq0 := Int.ediv_nonneg hU (show 0 ≤ Y / 4294967296 by omega)
  rw [← Int.lt_add_one_iff, Int.ediv_lt_iff_lt_mul (by omega)]
  generalize U / (Y / 4294967296) = q at *
  generalize U % (Y / 4294967296) = rr at *
  have e : (q + 1) * Y = ((Y / 4294967296) * q + Y / 4294967296) * 4294967296 + (q + 1) * (Y % 4294967296) := by
    have e3 : (q + 1) * Y = (q + 1) * (Y / 4294967296 * 4294967296 + Y % 4294967296) := by rw [← hY]
    rw [e3]; grind
  have h9 : 0 ≤ (q + 1) * (Y % 4294967296) := Int.mul_nonneg (by omega) (by omega)
  rw [e]; omega
end Go.Proofs.Ytfcckfiipbdnkaa.Am
namespace Go.Proofs.Ytfcckfiipbdnkaa.Am
set_option linter.unusedSimpArgs false
set_option linter.unusedVariables false
open Go Go.RowKit
/-! Bytes of texts, numbers of two bytes. -/
theorem byteAt_bd (s : ByteArray) (i : Nat) : 0 ≤ byteAt s i ∧ byteAt s i < 256 := by
  unfold byteAt
  have := (s.data.toList.getD i 0).toNat_lt
  omega
theorem i64_orJ (s : Nat) (x y : Int) (h0 : 0 ≤ x) (hm : x % 2 ^ s = 0) (h1 : x < 9223372036854775808) (g0 : 0 ≤ y) (g1 : y < 2 ^ s) (h2 : x + y < 9223372036854775808) : Go.bits .or .i64 x y = x + y :=
  bits_join .i64 63 (by decide) wraps_i64 s _ _ h0 hm (by omega) g0 g1 (by omega)
section
variable {F : Mem} {K : Own} {L : Slots}
/-- a byte of a text as a whole number -/
theorem sbC {s d : TypeId} {x : Operand} {i j : Ty} {t : ByteArray} {n : Nat} (hi : Θ.lookup s = some i := by rfl) (hj : Θ.lookup d = some j := by rfl) (hk : i.k = .int .u8 := by rfl) (hk' : j.k = .int .i64 := by rfl) (hx : evO L x = some (.int .u8 (byteAt t n)) := by rfl) : SD Try.prog F K L (.convert s d x) (.int .i64 (byteAt t n)) :=
  suC hi hj hk hk' hx (wrap_i64 (by have := byteAt_bd t n; omega) (by have := byteAt_bd t n; omega))
theorem siShl {t t' : TypeId} {x y : Operand} {j : IntKind} {a b v : Int} (n : Nat) (hx : evO L x = some (.int .i64 a) := by rfl) (hy : evO L y = some (.int j b) := by rfl) (hv : a * 2 ^ n = v := by rfl) (hb : b = n := by first | rfl | omega) (hn : n ≤ 64 := by decide) (h0 : -9223372036854775808 ≤ v := by omega) (h1 : v < 9223372036854775808 := by omega) : SD Try.prog F K L (.binOp .shl t x y t') (.int .i64 v) := by
  subst hb
  refine (sdSl hx hy (by omega)).cast ?_
  rw [show min ((n : Int)).toNat IntKind.i64.bits = n from by rw [Int.toNat_natCast]; exact Nat.min_eq_left hn, hv, wrap_i64 h0 h1]
theorem siOr8 {t t' : TypeId} {x y : Operand} {a b : Int} (hx : evO L x = some (.int .i64 a) := by rfl) (hy : evO L y = some (.int .i64 b) := by rfl) (h0 : 0 ≤ a := by omega) (hm : a % 256 = 0 := by omega) (h1 : a < 4611686018427387904 := by omega) (h2 : 0 ≤ b := by omega) (h3 : b < 256 := by omega) : SD Try.prog F K L (.binOp .or t x y t') (.int .i64 (a + b)) :=
  sbOr (i64_orJ 8 a b h0 (by simpa using hm) (by omega) h2 (by simpa using h3) (by omega)) hx hy
end
/-- the number of two bytes at a place -/
def two (s : ByteArray) (i : Nat) : Int := byteAt s i * 256 + byteAt s (i + 1)
theorem two_bd (s : ByteArray) (i : Nat) : 0 ≤ two s i ∧ two s i < 65536 := by
  have h1 := byteAt_bd s i
  have h2 := byteAt_bd s (i + 1)
  unfold two
  omega
def u2 (s : ByteArray) (i : Int) : Int := if i < 0 ∨ (s.size : Int) - 2 < i then 0 else two s i.toNat
theorem u2_bd (s : ByteArray) (i : Int) : 0 ≤ u2 s i ∧ u2 s i < 65536 := by
  unfold u2
  split
  · decide
  · exact two_bd _ _
theorem u2_in {s : ByteArray} {i : Int} (h0 : 0 ≤ i) (h1 : i + 2 ≤ s.size) : u2 s i = two s i.toNat := by
  unfold u2
  rw [if_neg (by omega)]
/-- with a sign -/
def sg2 (n : Int) : Int := if n ≥ 32768 then n - 65536 else n
theorem sg2_bd {n : Int} (h0 : 0 ≤ n) (h1 : n < 65536) : -32768 ≤ sg2 n ∧ sg2 n ≤ 32767 := by
  unfold sg2
  split <;> omega
/-- texts alike -/
theorem beqS (a b : ByteArray) : (a.data.toList == b.data.toList) = decide (a = b) := by
  by_cases h : a = b
  · subst h; simp
  · have : ¬ a.data.toList = b.data.toList := fun e => h (by
      obtain ⟨⟨x⟩⟩ := a
      obtain ⟨⟨y⟩⟩ := b
      simp_all)
    rw [beq_eq_false_iff_ne.2 this, decide_eq_false h]
end Go.Proofs.Ytfcckfiipbdnkaa.Am
namespace Go.Proofs.Ytfcckfiipbdnkaa.Am
set_option linter.unusedSimpArgs false
set_option linter.unusedVariables false
set_option maxRecDepth 100000
set_option maxHeartbeats 4000000
open Go Go.RowKit
/-- a slice in a cell: of none, the address may be any -/
def RGl (F : Mem) (g : Value) (xs : List Int) : Prop := RInts F g xs ∨ ∃ b o s, g = .slice (some ⟨b, o, some (s + 1)⟩) 0 0 ∧ xs = []
theorem RGl.le {F F' : Mem} {v : Value} {xs : List Int} (h : RGl F v xs) (hl : F.le F') : RGl F' v xs := by
  rcases h with h | h
  · exact .inl (h.le hl)
  · exact .inr h
/-- a slice, by itself -/
def SlV (g : Value) : Prop := (∃ b o n c, g = .slice (some ⟨b, o, none⟩) n c) ∨ ∃ n c, g = .slice none n c
theorem RInts.sl {F : Mem} {g : Value} {xs : List Int} (h : RInts F g xs) : SlV g := by
  rcases h with ⟨b, off, c, h1, _⟩ | ⟨h, _⟩
  · exact .inl ⟨b, off, _, c, h1⟩
  · exact .inr ⟨_, _, h⟩
def SlG (g : Value) : Prop := SlV g ∨ ∃ b o s n c, g = .slice (some ⟨b, o, some (s + 1)⟩) n c
theorem RGl.sl {F : Mem} {g : Value} {xs : List Int} (h : RGl F g xs) : SlG g := by
  rcases h with h | ⟨b, o, s, h, _⟩
  · exact .inl h.sl
  · exact .inr ⟨b, o, s, 0, 0, h⟩
theorem SlG.r {g : Value} (h : SlG g) (ι : Nat → Nat) : r1 ι g = g := by
  rcases h with (⟨b, o, n, c, rfl⟩ | ⟨n, c, rfl⟩) | ⟨b, o, s, n, c, rfl⟩ <;> rfl
theorem SlG.plain {g : Value} (h : SlG g) : plain1 g = true := by
  rcases h with (⟨b, o, n, c, rfl⟩ | ⟨n, c, rfl⟩) | ⟨b, o, s, n, c, rfl⟩ <;> rfl
theorem RGl.r {F : Mem} {g : Value} {xs : List Int} (h : RGl F g xs) (ι : Nat → Nat) : RGl F (r1 ι g) xs := by rw [h.sl.r]; exact h
theorem RGl.forms {F : Mem} {g : Value} {xs : List Int} (h : RGl F g xs) : RInts F g xs ∨ (xs = [] ∧ ∃ b o s, g = .slice (some ⟨b, o, some (s + 1)⟩) 0 0) := by
  rcases h with h | ⟨b, o, s, h, h2⟩
  · exact .inl h
  · exact .inr ⟨h2, b, o, s, h⟩
def ints (xs : List Int) (i : Nat) : Int := xs.getD i 0
theorem ints_get {xs : List Int} {i : Nat} (h : i < xs.length) : xs[i]? = some (ints xs i) := by simp [ints, List.getD_eq_getElem?_getD, List.getElem?_eq_getElem h]
theorem same_take {xs ys : List Int} {k : Nat} (hl : xs.length = ys.length) (hk : k < xs.length) (h : xs.take k = ys.take k) (e : ints xs k = ints ys k) : xs.take (k + 1) = ys.take (k + 1) := by
  rw [List.take_add_one, List.take_add_one, h, ints_get hk, ints_get (hl ▸ hk), e]
theorem lookN_one {F : Mem} {a : Addr} {v : Value} (h : lookN F a 1 = some [v]) : look F a = some v := by
  simp only [lookN] at h
  split at h <;> simp at h
  rename_i u hu
  rw [hu, h]
theorem RInts.ofS {F : Mem} {v : Value} {xs : List Int} (h : (Knd.int .i64).S F v xs) : RInts F v xs := by
  rcases h with ⟨b, off, c, h1, h2, h3⟩ | h
  · refine .inl ⟨b, off, c, h1, h2, fun i x hx => ?_⟩
    obtain ⟨cs, hc, rfl⟩ := h3 i x hx
    have := lookN_one hc
    rwa [show i * (Knd.int .i64).sz = i from Nat.mul_one i] at this
  · exact .inr h
theorem RGl.ofK {F : Mem} {cs : List Value} {xs : List Int} (h : (Knd.int .i64).slice.R F cs xs) : ∃ g, cs = [g] ∧ RGl F g xs := by
  obtain ⟨v, e, h | h⟩ := h
  · exact ⟨v, e, .inl (RInts.ofS h)⟩
  · exact ⟨v, e, .inr h⟩
theorem lookN_at {F : Mem} {a : Addr} {n : Nat} {cs : List Value} (h : lookN F a n = some cs) (j : Nat) {v : Value} (hv : cs[j]? = some v) : look F (addA a j) = some v := (lookN_spec h).2 j v hv
/-- the cells of a told slice -/
theorem Knd.S.forms {α : Type} {k : Knd α} {F : Mem} {v : Value} {xs : List α} (h : k.S F v xs) : (∃ b off c, v = .slice (some ⟨b, off, none⟩) xs.length c ∧ xs.length ≤ 9223372036854775807 ∧ ∀ i (hi : i < xs.length), ∃ cs, (∀ K, rdN F K ⟨b, off + i * k.sz, none⟩ k.sz = some cs) ∧ (∀ j u, cs[j]? = some u → look F ⟨b, off + i * k.sz + j, none⟩ = some u) ∧ k.R F cs (xs[i]'hi)) ∨ (v = .slice none 0 0 ∧ xs = []) := by
  rcases h with ⟨b, off, c, h1, h2, h3⟩ | h
  · refine .inl ⟨b, off, c, h1, h2, fun i hi => ?_⟩
    obtain ⟨cs, hc, hr⟩ := h3 i _ (List.getElem?_eq_getElem hi)
    exact ⟨cs, fun K => hc, fun j u hj => lookN_at hc j hj, hr⟩
  · exact .inr h
theorem Knd.S.sl {α : Type} {k : Knd α} {F : Mem} {v : Value} {xs : List α} (h : k.S F v xs) : SlV v := by
  rcases h with ⟨b, off, c, h1, _⟩ | ⟨h, _⟩
  · exact .inl ⟨b, off, _, c, h1⟩
  · exact .inr ⟨_, _, h⟩
theorem SameG_C (F : Mem) (v u : Value) (xs ys : List Int) (hv : RGl F v xs) (hu : RGl F u ys) : C0 Try.prog 30 [v, u] F (.bool (decide (xs = ys))) := by
  rcases hv.forms with (⟨vb, vo, vc, rfl, hl1, hr1⟩ | ⟨rfl, rfl⟩) | ⟨rfl, vb, vo, vs, rfl⟩ <;> rcases hu.forms with (⟨ub, uo, uc, rfl, hl2, hr2⟩ | ⟨rfl, rfl⟩) | ⟨rfl, ub, uo, us, rfl⟩
  ·
    refine C.go hT Try.func30 Try.ntmps30 ?_
    refine sq ?_
    refine rg ?_
    refine st (h := O) ?_
    refine nl ?_
    iterate 2 (refine sq ?_)
    refine rg ?_
    iterate 5 (refine st (h := O) ?_)
    refine nl ?_
    refine cN (fun c0 => ?_) (fun c0 => ?_)
    · refine sq ?_
      refine rg ?_
      refine st (h := O) ?_
      refine nl ?_
      refine rt ⟨?_, rfl⟩
      have : xs ≠ ys := fun e => c0 (by rw [e])
      simp [this]
    · have hl : xs.length = ys.length := by omega
      refine sk ?_
      iterate 2 (refine sq ?_)
      refine rg ?_
      refine st (h := O) ?_
      refine nl ?_
      refine bl ?_
      refine J.loop1 (α := Nat) (fun k => k ≤ xs.length ∧ xs.take k = ys.take k) (fun k => [(5, .int .i64 k)]) [(0, _), (1, _)] (fun k => []) [] (fun k => xs.length - k) (0) (by exact ⟨rfl, trivial⟩) (by exact ⟨rfl, rfl, trivial⟩) (by exact trivial) ?_ ?_
      · exact ⟨Nat.zero_le _, rfl⟩
      · intro k L1 K1 e1 e2 hI
        dsimp only [apV, apR, List.cons_append, List.nil_append] at e1 e2
        subst e1 e2
        obtain ⟨hk, hok⟩ := hI
        iterate 2 (refine sq ?_)
        refine rg ?_
        iterate 4 (refine st (h := O) ?_)
        refine nl ?_
        refine cD (fun c1 => ?_) (fun c1 => ?_)
        · have hkl : k < xs.length := by omega
          have q1 : look F ⟨vb, vo + (k : Int).toNat * 1, none⟩ = some (.int .i64 (ints xs k)) := by rw [Nat.mul_one]; exact hr1 k _ (ints_get hkl)
          have q2 : look F ⟨ub, uo + (k : Int).toNat * 1, none⟩ = some (.int .i64 (ints ys k)) := by rw [Nat.mul_one]; exact hr2 k _ (ints_get (by omega))
          refine sk ?_
          refine sq ?_
          refine bl ?_
          refine sq ?_
          refine dr 9 [] [0, 1, 2, 3, 4, 5, 6, 7, 8] ?_
          iterate 2 (refine dt (hv := by exact O) ?_)
          refine dt (hv := by exact (sdX (z := 1))) ?_
          refine dt (hv := by exact (by first | exact sdLG | exact sdW)) ?_
          iterate 2 (refine dt (hv := by exact O) ?_)
          refine dt (hv := by exact (sdX (z := 1))) ?_
          refine dt (hv := by exact (by first | exact sdLG | exact sdW)) ?_
          refine dt (hv := by exact O) ?_
          refine dn ?_
          refine cN (fun c2 => ?_) (fun c2 => ?_)
          · refine sq ?_
            refine rg ?_
            refine st (h := O) ?_
            refine nl ?_
            refine rt ⟨?_, rfl⟩
            have : xs ≠ ys := fun e => c2 (by rw [e])
            simp [this]
          · refine sk ?_
            refine bk ?_
            refine rg ?_
            refine st (h := O) ?_
            refine st (h := sdA) ?_
            refine st (h := O) ?_
            refine nl ?_
            refine bk1 (k + 1) (by exact ⟨rfl, trivial⟩) (by exact ⟨rfl, rfl, trivial⟩) (by exact trivial) ?_ ?_
            · omega
            · exact ⟨by omega, same_take hl hkl hok c2⟩
        · obtain rfl : k = xs.length := by omega
          rw [List.take_length, hl, List.take_length] at hok
          refine ex ?_
          refine sq ?_
          refine rg ?_
          refine st (h := O) ?_
          refine nl ?_
          refine rt ⟨?_, rfl⟩
          simp [hok]
  all_goals
    refine C.go hT Try.func30 Try.ntmps30 ?_
    refine sq ?_
    refine rg ?_
    refine st (h := O) ?_
    refine nl ?_
    iterate 2 (refine sq ?_)
    refine rg ?_
    iterate 5 (refine st (h := O) ?_)
    refine nl ?_
    refine cN (fun c0 => ?_) (fun c0 => ?_)
    · refine sq ?_
      refine rg ?_
      refine st (h := O) ?_
      refine nl ?_
      refine rt ⟨?_, rfl⟩
      first
        | exact absurd rfl c0
        | (have : xs ≠ [] := fun e => c0 (by rw [e]; rfl)
           simp [this])
        | (have : ys ≠ [] := fun e => c0 (by rw [e]; rfl)
           simp [Ne.symm this])
    · try (have hx : xs = [] := List.eq_nil_of_length_eq_zero (by omega)
           subst hx)
      try (have hx : ys = [] := List.eq_nil_of_length_eq_zero (by omega)
           subst hx)
      refine sk ?_
      iterate 2 (refine sq ?_)
      refine rg ?_
      refine st (h := O) ?_
      refine nl ?_
      refine bl ?_
      refine J.loop1 (α := Nat) (fun k => k = 0) (fun k => [(5, .int .i64 k)]) [(0, _), (1, _)] (fun k => []) [] (fun k => 0) (0) (by exact ⟨rfl, trivial⟩) (by exact ⟨rfl, rfl, trivial⟩) (by exact trivial) ?_ ?_
      · rfl
      · intro k L1 K1 e1 e2 hI
        dsimp only [apV, apR, List.cons_append, List.nil_append] at e1 e2
        subst e1 e2
        subst hI
        iterate 2 (refine sq ?_)
        refine rg ?_
        iterate 4 (refine st (h := O) ?_)
        refine nl ?_
        refine cD (fun c1 => ?_) (fun c1 => ?_)
        · exact absurd c1 (by decide)
        · refine ex ?_
          refine sq ?_
          refine rg ?_
          refine st (h := O) ?_
          refine nl ?_
          exact rt ⟨rfl, rfl⟩

end Go.Proofs.Ytfcckfiipbdnkaa.Am
namespace Go.Proofs.Ytfcckfiipbdnkaa.Am
set_option linter.unusedSimpArgs false
set_option linter.unusedVariables false
set_option maxRecDepth 100000
set_option maxHeartbeats 4000000
open Go Go.RowKit
theorem r01In_C (F : Mem) (x : Int) : C0 Try.prog 39 [.int .i64 x] F (.bool (decide (-1099511627776 ≤ x ∧ x ≤ 1099511627776))) := by
  refine C.go hT Try.func39 Try.ntmps39 ?_
  refine sq ?_
  refine rg ?_
  refine st (h := O) ?_
  refine nl ?_
  refine sq ?_
  refine rg ?_
  iterate 3 (refine st (h := O) ?_)
  refine gD (fun g5 => ?_) (fun g5 => ?_)
  · refine sg (h := O) ?_
    refine sg (h := O) ?_
    iterate 2 (refine st (h := O) ?_)
    refine nl ?_
    refine rt ⟨?_, rfl⟩
    simp only [Value.bool.injEq, eq_comm (a := false), decide_eq_true_eq, decide_eq_false_iff_not, decide_eq_decide]; omega
  · refine sp ?_
    refine sp ?_
    iterate 2 (refine st (h := O) ?_)
    refine nl ?_
    refine rt ⟨?_, rfl⟩
    simp only [Value.bool.injEq, eq_comm (a := false), decide_eq_true_eq, decide_eq_false_iff_not, decide_eq_decide]; omega
theorem told_C (F : Mem) (x : Int) : C0 Try.prog 50 [.int .i64 x] F (.tuple #[.int .i64 (keepS x).1, .bool (keepS x).2]) := by
  refine C.go hT Try.func50 Try.ntmps50 ?_
  refine sq ?_
  refine rg ?_
  iterate 2 (refine st (h := O) ?_)
  refine nl ?_
  iterate 2 (refine sq ?_)
  refine rg ?_
  refine st (h := O) ?_
  refine cl (h := by exact fun ι hV hl => r01In_C _ _) ?_
  refine st (h := O) ?_
  refine nl ?_
  refine cB (fun c0 => ?_) (fun c0 => ?_)
  · refine sq ?_
    refine rg ?_
    iterate 2 (refine st (h := O) ?_)
    refine nl ?_
    have h : ¬ (-1099511627776 ≤ x ∧ x ≤ 1099511627776) := of_decide_eq_false (by simpa only [Bool.not_eq_true'] using c0)
    exact rt ⟨by rw [keepS, if_neg h], rfl⟩
  · have h : (-1099511627776 ≤ x ∧ x ≤ 1099511627776) := of_decide_eq_true (by simpa only [Bool.not_eq_false'] using c0)
    refine sk ?_
    refine sq ?_
    refine rg ?_
    iterate 3 (refine st (h := O) ?_)
    refine nl ?_
    exact rt ⟨by rw [keepS, if_pos h], rfl⟩
theorem size_C (F : Mem) (x : Int) (hx : i64ok x) : C0 Try.prog 56 [.int .i64 x] F (.tuple #[.int .u64 (amt x), .bool (decide (x < 0))]) := by
  unfold i64ok at hx
  refine C.go hT Try.func56 Try.ntmps56 ?_
  refine sq ?_
  refine rg ?_
  iterate 2 (refine st (h := O) ?_)
  refine nl ?_
  iterate 2 (refine sq ?_)
  refine rg ?_
  iterate 2 (refine st (h := O) ?_)
  refine nl ?_
  refine cD (fun c0 => ?_) (fun c0 => ?_)
  · refine sq ?_
    refine rg ?_
    refine st (h := O) ?_
    refine st (h := sdA) ?_
    refine st (h := sdN) ?_
    refine st (h := suC) ?_
    refine st (h := suA) ?_
    iterate 2 (refine st (h := O) ?_)
    refine nl ?_
    refine rt ⟨?_, rfl⟩
    rw [amt, if_pos c0, show -(x + 1) + 1 = -x from by omega]; simp [c0]
  · refine sk ?_
    refine sq ?_
    refine rg ?_
    refine st (h := O) ?_
    refine st (h := suC) ?_
    iterate 2 (refine st (h := O) ?_)
    refine nl ?_
    refine rt ⟨?_, rfl⟩
    rw [amt, if_neg c0]; simp [c0]
theorem product_C (F : Mem) (a b : Int) (ha0 : 0 ≤ a) (ha : a < 18446744073709551616) (hb0 : 0 ≤ b) (hb : b < 18446744073709551616) : C0 Try.prog 57 [.int .u64 a, .int .u64 b] F (.tuple #[.int .u64 (a * b / 18446744073709551616), .int .u64 (a * b % 18446744073709551616)]) := by
  have p11 := mul_bd (x := a / 4294967296) (y := b / 4294967296) (by omega) (by omega) (by omega) (by omega)
  have p10 := mul_bd (x := a / 4294967296) (y := b % 4294967296) (by omega) (by omega) (by omega) (by omega)
  have p01 := mul_bd (x := a % 4294967296) (y := b / 4294967296) (by omega) (by omega) (by omega) (by omega)
  have p00 := mul_bd (x := a % 4294967296) (y := b % 4294967296) (by omega) (by omega) (by omega) (by omega)
  have hs := split_mul a b
  have hm := mul_hi_lo _ _ _ _ _ hs p11.1 p11.2 p10.1 p10.2 p01.1 p01.2 p00.1 p00.2 (mul_lt_sq ha0 ha hb0 hb).2
  rw [← hm.1, ← hm.2]
  clear hm
  have hq : a * b < 340282366920938463463374607431768211456 := (mul_lt_sq ha0 ha hb0 hb).2
  refine C.go hT Try.func57 Try.ntmps57 ?_
  refine sq ?_
  refine rg ?_
  iterate 2 (refine st (h := O) ?_)
  refine nl ?_
  refine sq ?_
  refine rg ?_
  refine st (h := O) ?_
  refine st (h := suAnd32) ?_
  refine st (h := O) ?_
  refine st (h := suShr32) ?_
  iterate 2 (refine st (h := O) ?_)
  refine nl ?_
  refine sq ?_
  refine rg ?_
  refine st (h := O) ?_
  refine st (h := suAnd32) ?_
  refine st (h := O) ?_
  refine st (h := suShr32) ?_
  iterate 2 (refine st (h := O) ?_)
  refine nl ?_
  refine sq ?_
  refine rg ?_
  iterate 2 (refine st (h := O) ?_)
  refine st (h := suM) ?_
  refine st (h := O) ?_
  refine nl ?_
  refine sq ?_
  refine rg ?_
  iterate 2 (refine st (h := O) ?_)
  refine st (h := suM) ?_
  refine st (h := O) ?_
  refine st (h := suShr32) ?_
  refine st (h := suA) ?_
  refine st (h := O) ?_
  refine nl ?_
  refine sq ?_
  refine rg ?_
  refine st (h := O) ?_
  refine st (h := suAnd32) ?_
  iterate 2 (refine st (h := O) ?_)
  refine st (h := suM) ?_
  refine st (h := suA) ?_
  refine st (h := O) ?_
  refine nl ?_
  refine sq ?_
  refine rg ?_
  iterate 2 (refine st (h := O) ?_)
  refine st (h := suM) ?_
  refine st (h := O) ?_
  refine st (h := suShr32) ?_
  refine st (h := suA) ?_
  refine st (h := O) ?_
  refine st (h := suShr32) ?_
  refine st (h := suA) ?_
  refine st (h := O) ?_
  refine st (h := suShl32) ?_
  refine st (h := O) ?_
  refine st (h := suAnd32) ?_
  refine st (h := suOr32) ?_
  iterate 2 (refine st (h := O) ?_)
  refine nl ?_
  refine rt ⟨?_, rfl⟩
  rw [show ∀ w : Int, w * 4294967296 % 18446744073709551616 = w % 4294967296 * 4294967296 from fun w => by omega]
theorem divide_C (F : Mem) (hi lo c : Int) (h0 : 0 ≤ hi) (h1 : hi < 18446744073709551616) (l0 : 0 ≤ lo) (l1 : lo < 18446744073709551616) (hc : 0 < c) (hc1 : c < 9223372036854775808) : C0 Try.prog 58 [.int .u64 hi, .int .u64 lo, .int .u64 c] F
    (.tuple #[.int .u64 ((hi * 18446744073709551616 + lo) / c / 18446744073709551616), .int .u64 ((hi * 18446744073709551616 + lo) / c % 18446744073709551616), .int .u64 ((hi * 18446744073709551616 + lo) % c)]) := by
  have hD : 0 ≤ hi * 18446744073709551616 + lo := by omega
  have hz : (hi * 18446744073709551616 + lo) / 2 ^ 128 = 0 := Int.ediv_eq_zero_of_lt hD (by have : (2 : Int) ^ 128 = 340282366920938463463374607431768211456 := rfl; rw [this]; omega)
  refine C.go hT Try.func58 Try.ntmps58 ?_
  refine sq ?_
  refine rg ?_
  iterate 3 (refine st (h := O) ?_)
  refine nl ?_
  refine sq ?_
  refine rg ?_
  iterate 3 (refine st (h := O) ?_)
  refine nl ?_
  iterate 2 (refine sq ?_)
  refine rg ?_
  refine st (h := O) ?_
  refine nl ?_
  refine bl ?_
  refine J.loop4 (α := Int) (β := Int) (γ := Int) (δ := Int) (fun i qh ql r => -1 ≤ i ∧ i ≤ 127 ∧ 0 ≤ qh ∧ 0 ≤ ql ∧ ql < 18446744073709551616 ∧ qh * 18446744073709551616 + ql = (hi * 18446744073709551616 + lo) / 2 ^ (i + 1).toNat / c ∧ r = (hi * 18446744073709551616 + lo) / 2 ^ (i + 1).toNat % c) (fun i qh ql r => [(9, .int .u64 qh), (10, .int .u64 ql), (11, .int .u64 r), (12, .int .i64 i)]) [(0, _), (1, _), (2, _)] (fun i qh ql r => []) [] (fun i qh ql r => (i + 1).toNat) (127) (0) (0) (0) (by exact ⟨rfl, rfl, rfl, rfl, trivial⟩) (by exact ⟨rfl, rfl, rfl, trivial⟩) (by exact trivial) ?_ ?_
  · exact ⟨by omega, by omega, by omega, by omega, by omega, by rw [show ((127 : Int) + 1).toNat = 128 from rfl, hz]; simp, by rw [show ((127 : Int) + 1).toNat = 128 from rfl, hz]; simp⟩
  · intro i qh ql r L1 K1 e1 e2 hI
    dsimp only [apV, apR, List.cons_append, List.nil_append] at e1 e2
    subst e1 e2
    obtain ⟨hi0, hi1, hq, hl, hl1, he, hr⟩ := hI
    iterate 2 (refine sq ?_)
    refine rg ?_
    iterate 2 (refine st (h := O) ?_)
    refine nl ?_
    refine cD (fun c0 => ?_) (fun c0 => ?_)
    · obtain ⟨n, rfl⟩ := Int.eq_ofNat_of_zero_le (show (0 : Int) ≤ i by omega)
      rw [show ((n : Int) + 1).toNat = n + 1 from by omega] at he hr
      have hhalf := half_pow (hi * 18446744073709551616 + lo) n
      have hb0 : 0 ≤ (hi * 18446744073709551616 + lo) / 2 ^ n % 2 := by omega
      have hb1 : (hi * 18446744073709551616 + lo) / 2 ^ n % 2 < 2 := by omega
      have hst := bit_step (P := (hi * 18446744073709551616 + lo) / 2 ^ (n + 1)) hc hb0 hb1
      rw [← hhalf] at hst
      have hr0 := Int.emod_nonneg ((hi * 18446744073709551616 + lo) / 2 ^ (n + 1)) (by omega : c ≠ 0)
      have hr1 := Int.emod_lt_of_pos ((hi * 18446744073709551616 + lo) / 2 ^ (n + 1)) hc
      have hP1 := Int.ediv_nonneg hD (Int.le_of_lt (show (0 : Int) < 2 ^ n from Int.pow_pos (by decide)))
      have hP2 := Int.ediv_le_self (2 ^ n) hD
      have hP3 := Int.ediv_le_self c hP1
      rw [← he, ← hr] at hst
      rw [← hr] at hr0 hr1
      have hv1 := Int.ediv_nonneg l0 (Int.le_of_lt (show (0 : Int) < 2 ^ (n % 64) from Int.pow_pos (by decide)))
      have hv2 := Int.ediv_le_self (2 ^ (n % 64)) l0
      have hv3 := Int.ediv_nonneg h0 (Int.le_of_lt (show (0 : Int) < 2 ^ (n - 64) from Int.pow_pos (by decide)))
      have hv4 := Int.ediv_le_self (2 ^ (n - 64)) h0
      have hlow : ¬ (n : Int) ≥ 64 → lo / 2 ^ (n % 64) % 2 = (hi * 18446744073709551616 + lo) / 2 ^ n % 2 := fun h => by rw [Nat.mod_eq_of_lt (by omega)]; exact low_bit n (by omega)
      have hhigh : (n : Int) ≥ 64 → hi / 2 ^ (n - 64) % 2 = (hi * 18446744073709551616 + lo) / 2 ^ n % 2 := fun h => by rw [high_bit l0 l1 n (by omega)]
      have hq2 : qh * 2 < 18446744073709551616 := by
        have := hst.1
        split at this <;> omega
      refine sk ?_
      refine sq ?_
      refine bl ?_
      refine sq ?_
      refine rg ?_
      iterate 2 (refine st (h := O) ?_)
      refine st (h := si63) ?_
      refine st (h := suC) ?_
      refine st (h := suShr (n % 64) rfl (hb := by omega) (hn := by simp [IntKind.bits]; omega)) ?_
      refine st (h := suAnd1) ?_
      refine st (h := O) ?_
      refine nl ?_
      iterate 2 (refine sq ?_)
      refine rg ?_
      iterate 2 (refine st (h := O) ?_)
      refine nl ?_
      refine cD (fun c1 => ?_) (fun c1 => ?_)
      · have hbit := hhigh (by omega)
        refine rg ?_
        iterate 2 (refine st (h := O) ?_)
        refine st (h := sdS) ?_
        refine st (h := suC) ?_
        refine st (h := suShr (n - 64) rfl (hb := by omega) (hn := by simp [IntKind.bits]; omega)) ?_
        refine st (h := suAnd1) ?_
        refine st (h := O) ?_
        refine nl ?_
        refine sq ?_
        rw [hbit]
        generalize (hi * 18446744073709551616 + lo) / 2 ^ n % 2 = b at *
        refine rg ?_
        refine st (h := O) ?_
        refine st (h := suShl1) ?_
        refine st (h := O) ?_
        refine st (h := suOr1) ?_
        refine st (h := O) ?_
        refine nl ?_
        refine sq ?_
        refine rg ?_
        refine st (h := O) ?_
        refine st (h := suShl1) ?_
        refine st (h := O) ?_
        refine st (h := suShr63) ?_
        refine st (h := suOr1) ?_
        refine st (h := O) ?_
        refine nl ?_
        refine sq ?_
        refine rg ?_
        refine st (h := O) ?_
        refine st (h := suShl1) ?_
        refine st (h := O) ?_
        refine nl ?_
        refine sq ?_
        refine rg ?_
        iterate 3 (refine st (h := O) ?_)
        refine nl ?_
        refine cD (fun c2 => ?_) (fun c2 => ?_)
        · rw [if_pos (by omega), if_pos (by omega)] at hst
          refine sq ?_
          refine rg ?_
          iterate 2 (refine st (h := O) ?_)
          refine st (h := suS) ?_
          refine st (h := O) ?_
          refine nl ?_
          refine rg ?_
          refine st (h := O) ?_
          refine st (h := suOr1) ?_
          refine st (h := O) ?_
          refine nl ?_
          refine bk ?_
          refine rg ?_
          refine st (h := O) ?_
          refine st (h := sdS) ?_
          refine st (h := O) ?_
          refine nl ?_
          refine bk4 (_) (_) (_) (_) (by exact ⟨rfl, rfl, rfl, rfl, trivial⟩) (by exact ⟨rfl, rfl, rfl, trivial⟩) (by exact trivial) ?_ ?_
          · omega
          · rw [show ((n : Int) - 1 + 1).toNat = n from by omega]
            exact ⟨by omega, by omega, by omega, by omega, by omega, by omega, by omega⟩
        · rw [if_neg (by omega), if_neg (by omega)] at hst
          refine sk ?_
          refine bk ?_
          refine rg ?_
          refine st (h := O) ?_
          refine st (h := sdS) ?_
          refine st (h := O) ?_
          refine nl ?_
          refine bk4 (_) (_) (_) (_) (by exact ⟨rfl, rfl, rfl, rfl, trivial⟩) (by exact ⟨rfl, rfl, rfl, trivial⟩) (by exact trivial) ?_ ?_
          · omega
          · rw [show ((n : Int) - 1 + 1).toNat = n from by omega]
            exact ⟨by omega, by omega, by omega, by omega, by omega, by omega, by omega⟩
      · have hbit := hlow (by omega)
        refine sk ?_
        refine sq ?_
        rw [hbit]
        generalize (hi * 18446744073709551616 + lo) / 2 ^ n % 2 = b at *
        refine rg ?_
        refine st (h := O) ?_
        refine st (h := suShl1) ?_
        refine st (h := O) ?_
        refine st (h := suOr1) ?_
        refine st (h := O) ?_
        refine nl ?_
        refine sq ?_
        refine rg ?_
        refine st (h := O) ?_
        refine st (h := suShl1) ?_
        refine st (h := O) ?_
        refine st (h := suShr63) ?_
        refine st (h := suOr1) ?_
        refine st (h := O) ?_
        refine nl ?_
        refine sq ?_
        refine rg ?_
        refine st (h := O) ?_
        refine st (h := suShl1) ?_
        refine st (h := O) ?_
        refine nl ?_
        refine sq ?_
        refine rg ?_
        iterate 3 (refine st (h := O) ?_)
        refine nl ?_
        refine cD (fun c2 => ?_) (fun c2 => ?_)
        · rw [if_pos (by omega), if_pos (by omega)] at hst
          refine sq ?_
          refine rg ?_
          iterate 2 (refine st (h := O) ?_)
          refine st (h := suS) ?_
          refine st (h := O) ?_
          refine nl ?_
          refine rg ?_
          refine st (h := O) ?_
          refine st (h := suOr1) ?_
          refine st (h := O) ?_
          refine nl ?_
          refine bk ?_
          refine rg ?_
          refine st (h := O) ?_
          refine st (h := sdS) ?_
          refine st (h := O) ?_
          refine nl ?_
          refine bk4 (_) (_) (_) (_) (by exact ⟨rfl, rfl, rfl, rfl, trivial⟩) (by exact ⟨rfl, rfl, rfl, trivial⟩) (by exact trivial) ?_ ?_
          · omega
          · rw [show ((n : Int) - 1 + 1).toNat = n from by omega]
            exact ⟨by omega, by omega, by omega, by omega, by omega, by omega, by omega⟩
        · rw [if_neg (by omega), if_neg (by omega)] at hst
          refine sk ?_
          refine bk ?_
          refine rg ?_
          refine st (h := O) ?_
          refine st (h := sdS) ?_
          refine st (h := O) ?_
          refine nl ?_
          refine bk4 (_) (_) (_) (_) (by exact ⟨rfl, rfl, rfl, rfl, trivial⟩) (by exact ⟨rfl, rfl, rfl, trivial⟩) (by exact trivial) ?_ ?_
          · omega
          · rw [show ((n : Int) - 1 + 1).toNat = n from by omega]
            exact ⟨by omega, by omega, by omega, by omega, by omega, by omega, by omega⟩
    · obtain rfl : i = -1 := by omega
      simp only [show ((-1 : Int) + 1).toNat = 0 from rfl, Int.pow_zero, Int.ediv_one] at he hr
      refine ex ?_
      refine sq ?_
      refine rg ?_
      iterate 6 (refine st (h := O) ?_)
      refine nl ?_
      refine rt ⟨?_, rfl⟩
      rw [← he, ← hr, show (qh * 18446744073709551616 + ql) / 18446744073709551616 = qh from by omega, show (qh * 18446744073709551616 + ql) % 18446744073709551616 = ql from by omega]
def qtell (P c : Int) : Int := if P / c ≤ 1099511627776 then P / c else 1099511627777
theorem parts_C (F : Mem) (a b c : Int) (ha : i64ok a) (hb : i64ok b) (hc : 1 ≤ c) (hc1 : c ≤ 9223372036854775807) : C0 Try.prog 49 [.int .i64 a, .int .i64 b, .int .i64 c] F
    (.tuple #[.bool ((decide (a < 0) != decide (b < 0)) && decide (amt a * amt b ≠ 0)), .int .i64 (qtell (amt a * amt b) c), .int .u64 (amt a * amt b % c)]) := by
  have hp := prod_lt ha hb
  have h1 := amt_bd ha; have h2 := amt_bd hb
  have hs : ∀ G, C0 Try.prog 56 [.int .i64 a] G (.tuple #[.int .u64 (amt a), .bool (decide (a < 0))]) := fun G => size_C G a ha
  have ht : ∀ G, C0 Try.prog 56 [.int .i64 b] G (.tuple #[.int .u64 (amt b), .bool (decide (b < 0))]) := fun G => size_C G b hb
  have hpr : ∀ G, C0 Try.prog 57 [.int .u64 (amt a), .int .u64 (amt b)] G (.tuple #[.int .u64 (amt a * amt b / 18446744073709551616), .int .u64 (amt a * amt b % 18446744073709551616)]) := fun G => product_C G _ _ h1.1 (by omega) h2.1 (by omega)
  unfold i64ok at ha hb
  generalize amt a = x at *
  generalize amt b = y at *
  generalize x * y = P at *
  have hdv : ∀ G, C0 Try.prog 58 [.int .u64 (P / 18446744073709551616), .int .u64 (P % 18446744073709551616), .int .u64 c] G (.tuple #[.int .u64 (P / c / 18446744073709551616), .int .u64 (P / c % 18446744073709551616), .int .u64 (P % c)]) := fun G => by
    have := divide_C G (P / 18446744073709551616) (P % 18446744073709551616) c (by omega) (by omega) (by omega) (by omega) (by omega) (by omega)
    rwa [show P / 18446744073709551616 * 18446744073709551616 + P % 18446744073709551616 = P from by omega] at this
  have hq0 : 0 ≤ P / c := Int.ediv_nonneg hp.1 (by omega)
  generalize hq : P / c = q at *
  generalize P % c = r at *
  have hqt : qtell P c = if q ≤ 1099511627776 then q else 1099511627777 := by unfold qtell; rw [hq]
  rw [hqt]
  cases hsa : decide (a < 0) <;> cases htb : decide (b < 0)
  all_goals
    rw [hsa] at hs
    rw [htb] at ht
    refine C.go hT Try.func49 Try.ntmps49 ?_
    refine sq ?_
    refine rg ?_
    iterate 3 (refine st (h := O) ?_)
    refine nl ?_
    refine sq ?_
    refine rg ?_
    refine st (h := O) ?_
    refine cl (h := by exact fun ι hV hl => hs _) ?_
    iterate 5 (refine st (h := O) ?_)
    refine nl ?_
    refine sq ?_
    refine rg ?_
    refine st (h := O) ?_
    refine cl (h := by exact fun ι hV hl => ht _) ?_
    iterate 5 (refine st (h := O) ?_)
    refine nl ?_
    refine sq ?_
    refine rg ?_
    iterate 2 (refine st (h := O) ?_)
    refine cl (h := by exact fun ι hV hl => hpr _) ?_
    iterate 5 (refine st (h := O) ?_)
    refine nl ?_
    refine sq ?_
    refine rg ?_
    iterate 3 (refine st (h := O) ?_)
    refine st (h := suC) ?_
    refine cl (h := by exact fun ι hV hl => hdv _) ?_
    iterate 7 (refine st (h := O) ?_)
    refine nl ?_
    refine sq ?_
    refine rg ?_
    refine st (h := O) ?_
    refine nl ?_
    iterate 2 (refine sq ?_)
    refine rg ?_
    iterate 3 (refine st (h := O) ?_)
    refine gD (fun g46 => ?_) (fun g46 => ?_)
    · refine sg (h := O) ?_
      refine sg (h := O) ?_
      refine st (h := O) ?_
      refine nl ?_
      refine cD (fun c0 => ?_) (fun c0 => ?_)
      · refine rg ?_
        refine st (h := O) ?_
        refine st (h := suC) ?_
        refine st (h := O) ?_
        refine nl ?_
        refine sq ?_
        refine rg ?_
        iterate 2 (refine st (h := O) ?_)
        refine st (h := sbNe) ?_
        refine st (h := O) ?_
        refine gB (fun g55 => ?_) (fun g55 => ?_)
        · refine sg (h := O) ?_
          iterate 2 (refine sg (h := O) ?_)
          refine gN (fun g58 => ?_) (fun g58 => ?_)
          · refine sp ?_
            refine sp ?_
            refine sg (h := O) ?_
            iterate 6 (refine st (h := O) ?_)
            refine nl ?_
            refine rt ⟨?_, rfl⟩
            refine tup3 (congrArg Value.bool ?_) (congrArg (Value.int .i64) ?_) rfl
            · first | exact absurd g55 (by decide) | rfl | (rw [Bool.eq_iff_iff]; simp; omega)
            · split <;> omega
          · refine sg (h := O) ?_
            iterate 2 (refine sg (h := O) ?_)
            iterate 6 (refine st (h := O) ?_)
            refine nl ?_
            refine rt ⟨?_, rfl⟩
            refine tup3 (congrArg Value.bool ?_) (congrArg (Value.int .i64) ?_) rfl
            · first | exact absurd g55 (by decide) | rfl | (rw [Bool.eq_iff_iff]; simp; omega)
            · split <;> omega
        · refine sp ?_
          iterate 2 (refine sp ?_)
          iterate 2 (refine su ?_)
          refine sp ?_
          iterate 6 (refine st (h := O) ?_)
          refine nl ?_
          refine rt ⟨?_, rfl⟩
          refine tup3 (congrArg Value.bool ?_) (congrArg (Value.int .i64) ?_) rfl
          · first | exact absurd g55 (by decide) | rfl | (rw [Bool.eq_iff_iff]; simp; omega)
          · split <;> omega
      · refine sk ?_
        refine sq ?_
        refine rg ?_
        iterate 2 (refine st (h := O) ?_)
        refine st (h := sbNe) ?_
        refine st (h := O) ?_
        refine gB (fun g55 => ?_) (fun g55 => ?_)
        · refine sg (h := O) ?_
          iterate 2 (refine sg (h := O) ?_)
          refine gN (fun g58 => ?_) (fun g58 => ?_)
          · refine sp ?_
            refine sp ?_
            refine sg (h := O) ?_
            iterate 6 (refine st (h := O) ?_)
            refine nl ?_
            refine rt ⟨?_, rfl⟩
            refine tup3 (congrArg Value.bool ?_) (congrArg (Value.int .i64) ?_) rfl
            · first | exact absurd g55 (by decide) | rfl | (rw [Bool.eq_iff_iff]; simp; omega)
            · split <;> omega
          · refine sg (h := O) ?_
            iterate 2 (refine sg (h := O) ?_)
            iterate 6 (refine st (h := O) ?_)
            refine nl ?_
            refine rt ⟨?_, rfl⟩
            refine tup3 (congrArg Value.bool ?_) (congrArg (Value.int .i64) ?_) rfl
            · first | exact absurd g55 (by decide) | rfl | (rw [Bool.eq_iff_iff]; simp; omega)
            · split <;> omega
        · refine sp ?_
          iterate 2 (refine sp ?_)
          iterate 2 (refine su ?_)
          refine sp ?_
          iterate 6 (refine st (h := O) ?_)
          refine nl ?_
          refine rt ⟨?_, rfl⟩
          refine tup3 (congrArg Value.bool ?_) (congrArg (Value.int .i64) ?_) rfl
          · first | exact absurd g55 (by decide) | rfl | (rw [Bool.eq_iff_iff]; simp; omega)
          · split <;> omega
    · refine sp ?_
      refine sp ?_
      refine st (h := O) ?_
      refine nl ?_
      refine cF ?_
      refine sk ?_
      refine sq ?_
      refine rg ?_
      iterate 2 (refine st (h := O) ?_)
      refine st (h := sbNe) ?_
      refine st (h := O) ?_
      refine gB (fun g55 => ?_) (fun g55 => ?_)
      · refine sg (h := O) ?_
        iterate 2 (refine sg (h := O) ?_)
        refine gN (fun g58 => ?_) (fun g58 => ?_)
        · refine sp ?_
          refine sp ?_
          refine sg (h := O) ?_
          iterate 6 (refine st (h := O) ?_)
          refine nl ?_
          refine rt ⟨?_, rfl⟩
          refine tup3 (congrArg Value.bool ?_) (congrArg (Value.int .i64) ?_) rfl
          · first | exact absurd g55 (by decide) | rfl | (rw [Bool.eq_iff_iff]; simp; omega)
          · split <;> omega
        · refine sg (h := O) ?_
          iterate 2 (refine sg (h := O) ?_)
          iterate 6 (refine st (h := O) ?_)
          refine nl ?_
          refine rt ⟨?_, rfl⟩
          refine tup3 (congrArg Value.bool ?_) (congrArg (Value.int .i64) ?_) rfl
          · first | exact absurd g55 (by decide) | rfl | (rw [Bool.eq_iff_iff]; simp; omega)
          · split <;> omega
      · refine sp ?_
        iterate 2 (refine sp ?_)
        iterate 2 (refine su ?_)
        refine sp ?_
        iterate 6 (refine st (h := O) ?_)
        refine nl ?_
        refine rt ⟨?_, rfl⟩
        refine tup3 (congrArg Value.bool ?_) (congrArg (Value.int .i64) ?_) rfl
        · first | exact absurd g55 (by decide) | rfl | (rw [Bool.eq_iff_iff]; simp; omega)
        · split <;> omega
theorem neg_div {P c : Int} (hc : 0 < c) : -P / c = if P % c = 0 then -(P / c) else -(P / c) - 1 := by
  have hd := Int.mul_ediv_add_emod P c
  have h0 := Int.emod_nonneg P (by omega : c ≠ 0)
  have h1 := Int.emod_lt_of_pos P hc
  generalize P / c = q at *
  generalize P % c = r at *
  subst hd
  split
  · rename_i h
    subst h
    rw [show -(c * q + 0) = -q * c from by grind, Int.mul_ediv_cancel _ (by omega)]
  · rw [show -(c * q + r) = (c - r) + (-q - 1) * c from by grind, Int.add_mul_ediv_right _ _ (by omega), Int.ediv_eq_zero_of_lt (by omega) (by omega)]
    omega
theorem ab_of (a b : Int) : a * b = if (decide (a < 0) != decide (b < 0)) = true then -(amt a * amt b) else amt a * amt b := by
  rw [mul_amt]
  split <;> simp
theorem keepS_out {x : Int} (h : ¬ (-1099511627776 ≤ x ∧ x ≤ 1099511627776)) : keepS x = (0, false) := by unfold keepS; rw [if_neg h]
theorem r01Scale_C (F : Mem) (a b c : Int) (ha : i64ok a) (hb : i64ok b) (hc : i64ok c) : C0 Try.prog 40 [.int .i64 a, .int .i64 b, .int .i64 c] F (.tuple #[.int .i64 (scaleS a b c).1, .bool (scaleS a b c).2]) := by
  by_cases c1 : c < 1
  · rw [scaleS, if_pos c1]
    refine C.go hT Try.func40 Try.ntmps40 ?_
    refine sq ?_
    refine rg ?_
    iterate 2 (refine st (h := O) ?_)
    refine nl ?_
    iterate 2 (refine sq ?_)
    refine rg ?_
    iterate 2 (refine st (h := O) ?_)
    refine nl ?_
    refine cD (fun c0 => ?_) (fun c0 => ?_)
    · refine sq ?_
      refine rg ?_
      iterate 2 (refine st (h := O) ?_)
      refine nl ?_
      exact rt ⟨rfl, rfl⟩
    · exact absurd c1 c0
  · rw [scaleS, if_neg c1]
    have hp := prod_lt ha hb
    have hab := ab_of a b
    have hpt : ∀ G, _ := fun G => parts_C G a b c ha hb (by omega) hc.2
    have hn := near_neg (P := amt a * amt b) (c := c) (by omega)
    have hpo := near_pos (P := amt a * amt b) (c := c) (by omega)
    have hq0 : 0 ≤ amt a * amt b / c := Int.ediv_nonneg hp.1 (by omega)
    have hr0 := Int.emod_nonneg (amt a * amt b) (by omega : c ≠ 0)
    have hr1 := Int.emod_lt_of_pos (amt a * amt b) (by omega : 0 < c)
    have hz : amt a * amt b = 0 → amt a * amt b / c = 0 := by intro h; rw [h]; exact Int.zero_ediv c
    have hz2 : amt a * amt b = 0 → amt a * amt b % c = 0 := by intro h; rw [h]; exact Int.zero_emod c
    unfold i64ok at ha hb hc
    have hqt : qtell (amt a * amt b) c = if amt a * amt b / c ≤ 1099511627776 then amt a * amt b / c else 1099511627777 := rfl
    rw [hqt] at hpt
    clear hqt
    generalize (decide (a < 0) != decide (b < 0)) = s at *
    generalize hPc : amt a * amt b / c = q at *
    generalize amt a * amt b % c = r at *
    generalize amt a * amt b = P at *
    have hqb : 0 ≤ (if q ≤ 1099511627776 then q else 1099511627777) ∧ (if q ≤ 1099511627776 then q else 1099511627777) ≤ 1099511627777 := by split <;> omega
    generalize hQ : (if q ≤ 1099511627776 then q else 1099511627777) = Q at *
    refine C.go hT Try.func40 Try.ntmps40 ?_
    refine sq ?_
    refine rg ?_
    iterate 2 (refine st (h := O) ?_)
    refine nl ?_
    iterate 2 (refine sq ?_)
    refine rg ?_
    iterate 2 (refine st (h := O) ?_)
    refine nl ?_
    refine cD (fun c0 => ?_) (fun c0 => ?_)
    · exact absurd c0 c1
    · refine sk ?_
      refine sq ?_
      refine rg ?_
      iterate 3 (refine st (h := O) ?_)
      refine cl (h := by exact fun ι hV hl => hpt _) ?_
      iterate 7 (refine st (h := O) ?_)
      refine nl ?_
      iterate 2 (refine sq ?_)
      refine rg ?_
      iterate 2 (refine st (h := O) ?_)
      refine nl ?_
      refine cB (fun c1 => ?_) (fun c1 => ?_)
      · have hv : (2 * (a * b) + c) / (2 * c) = q + (if 2 * r ≥ c then 1 else 0) := by
          cases s
          · rw [hab, if_neg (by decide)]; exact hpo
          · have hP0 : P = 0 := by simpa using c1
            rw [hab, if_pos rfl, hn, hz hP0, hz2 hP0, if_neg (by omega), if_neg (by omega)]; rfl
        iterate 2 (refine sq ?_)
        refine rg ?_
        refine st (h := O) ?_
        refine st (h := suM) ?_
        refine st (h := O) ?_
        refine st (h := suC) ?_
        refine st (h := O) ?_
        refine nl ?_
        refine cD (fun c2 => ?_) (fun c2 => ?_)
        · refine rg ?_
          refine st (h := O) ?_
          refine st (h := sdA) ?_
          refine st (h := O) ?_
          refine nl ?_
          refine sq ?_
          refine rg ?_
          refine st (h := O) ?_
          refine cl (h := by exact fun ι hV hl => told_C _ _) ?_
          iterate 4 (refine st (h := O) ?_)
          refine nl ?_
          refine rt ⟨?_, rfl⟩
          rw [hv]
          by_cases h : q ≤ 1099511627776
          · rw [if_pos h] at hQ; subst hQ
            first
              | rw [if_pos c2]
              | rw [if_neg c2, Int.add_zero]
              | rw [if_pos c3]
              | rw [if_neg c3, Int.add_zero]
          · rw [if_neg h] at hQ
            first
              | (rw [if_pos c2, keepS_out (x := q + 1) (by omega), keepS_out (x := Q + 1) (by omega)])
              | (rw [if_neg c2, keepS_out (x := q + 0) (by omega), keepS_out (x := Q) (by omega)])
              | (rw [if_pos c3, keepS_out (x := -(q + 1)) (by omega), keepS_out (x := -(Q + 1)) (by omega)])
              | (rw [if_neg c3, keepS_out (x := -(q + 0)) (by omega), keepS_out (x := -Q) (by omega)])
        · refine sk ?_
          refine sq ?_
          refine rg ?_
          refine st (h := O) ?_
          refine cl (h := by exact fun ι hV hl => told_C _ _) ?_
          iterate 4 (refine st (h := O) ?_)
          refine nl ?_
          refine rt ⟨?_, rfl⟩
          rw [hv]
          by_cases h : q ≤ 1099511627776
          · rw [if_pos h] at hQ; subst hQ
            first
              | rw [if_pos c2]
              | rw [if_neg c2, Int.add_zero]
              | rw [if_pos c3]
              | rw [if_neg c3, Int.add_zero]
          · rw [if_neg h] at hQ
            first
              | (rw [if_pos c2, keepS_out (x := q + 1) (by omega), keepS_out (x := Q + 1) (by omega)])
              | (rw [if_neg c2, keepS_out (x := q + 0) (by omega), keepS_out (x := Q) (by omega)])
              | (rw [if_pos c3, keepS_out (x := -(q + 1)) (by omega), keepS_out (x := -(Q + 1)) (by omega)])
              | (rw [if_neg c3, keepS_out (x := -(q + 0)) (by omega), keepS_out (x := -Q) (by omega)])
      · have hv : (2 * (a * b) + c) / (2 * c) = -(q + (if 2 * r > c then 1 else 0)) := by
          cases s
          · simp at c1
          · rw [hab, if_pos rfl, hn]
        refine sk ?_
        iterate 2 (refine sq ?_)
        refine rg ?_
        refine st (h := O) ?_
        refine st (h := suM) ?_
        refine st (h := O) ?_
        refine st (h := suC) ?_
        refine st (h := O) ?_
        refine nl ?_
        refine cD (fun c3 => ?_) (fun c3 => ?_)
        · refine rg ?_
          refine st (h := O) ?_
          refine st (h := sdA) ?_
          refine st (h := O) ?_
          refine nl ?_
          refine sq ?_
          refine rg ?_
          refine st (h := O) ?_
          refine st (h := sdN) ?_
          refine cl (h := by exact fun ι hV hl => told_C _ _) ?_
          iterate 4 (refine st (h := O) ?_)
          refine nl ?_
          refine rt ⟨?_, rfl⟩
          rw [hv]
          by_cases h : q ≤ 1099511627776
          · rw [if_pos h] at hQ; subst hQ
            first
              | rw [if_pos c2]
              | rw [if_neg c2, Int.add_zero]
              | rw [if_pos c3]
              | rw [if_neg c3, Int.add_zero]
          · rw [if_neg h] at hQ
            first
              | (rw [if_pos c2, keepS_out (x := q + 1) (by omega), keepS_out (x := Q + 1) (by omega)])
              | (rw [if_neg c2, keepS_out (x := q + 0) (by omega), keepS_out (x := Q) (by omega)])
              | (rw [if_pos c3, keepS_out (x := -(q + 1)) (by omega), keepS_out (x := -(Q + 1)) (by omega)])
              | (rw [if_neg c3, keepS_out (x := -(q + 0)) (by omega), keepS_out (x := -Q) (by omega)])
        · refine sk ?_
          refine sq ?_
          refine rg ?_
          refine st (h := O) ?_
          refine st (h := sdN) ?_
          refine cl (h := by exact fun ι hV hl => told_C _ _) ?_
          iterate 4 (refine st (h := O) ?_)
          refine nl ?_
          refine rt ⟨?_, rfl⟩
          rw [hv]
          by_cases h : q ≤ 1099511627776
          · rw [if_pos h] at hQ; subst hQ
            first
              | rw [if_pos c2]
              | rw [if_neg c2, Int.add_zero]
              | rw [if_pos c3]
              | rw [if_neg c3, Int.add_zero]
          · rw [if_neg h] at hQ
            first
              | (rw [if_pos c2, keepS_out (x := q + 1) (by omega), keepS_out (x := Q + 1) (by omega)])
              | (rw [if_neg c2, keepS_out (x := q + 0) (by omega), keepS_out (x := Q) (by omega)])
              | (rw [if_pos c3, keepS_out (x := -(q + 1)) (by omega), keepS_out (x := -(Q + 1)) (by omega)])
              | (rw [if_neg c3, keepS_out (x := -(q + 0)) (by omega), keepS_out (x := -Q) (by omega)])

end Go.Proofs.Ytfcckfiipbdnkaa.Am
