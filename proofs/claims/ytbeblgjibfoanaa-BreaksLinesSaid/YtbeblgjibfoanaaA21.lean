/- Rules for walking Go functions with memory told by tags (A21). -/
import Derived.Test.YtbeblgjibfoanaaA20
namespace Go.Proofs.Ytbeblgjibfoanaa.Am
set_option linter.unusedSimpArgs false
set_option linter.unusedVariables false
open Go Go.RowKit
section
variable {X : Cx} {F F0 : Mem} {L : Slots} {K K0 : Own} {s : List SI} {ops : Array Oper} {o : Oper} {l : List Oper}
/-- a guard whose test is open -/
theorem gD {j d : Nat} {want : Bool} {p : Prop} [Decidable p] (ht : p → JL X ops (o :: l) s F ((d, .bool true) :: L) K) (hf : ¬ p → JL X ops (o :: l) s F ((d, .bool false) :: L) K)
    (hg : o.guard = some (j, want) := by rfl) (hj : (ops[j]?).bind (·.dst) = some d := by rfl) (hb : L.lookup d = some (.bool (decide p)) := by rfl) : JL X ops (o :: l) s F L K := JL.caseD hb ht hf
theorem gN {j d : Nat} {want : Bool} {p : Prop} [Decidable p] (ht : ¬ p → JL X ops (o :: l) s F ((d, .bool true) :: L) K) (hf : p → JL X ops (o :: l) s F ((d, .bool false) :: L) K)
    (hg : o.guard = some (j, want) := by rfl) (hj : (ops[j]?).bind (·.dst) = some d := by rfl) (hb : L.lookup d = some (.bool (!decide p)) := by rfl) : JL X ops (o :: l) s F L K := JL.caseN hb ht hf
theorem gB {j d : Nat} {want b : Bool} (ht : b = true → JL X ops (o :: l) s F ((d, .bool true) :: L) K) (hf : b = false → JL X ops (o :: l) s F ((d, .bool false) :: L) K)
    (hg : o.guard = some (j, want) := by rfl) (hj : (ops[j]?).bind (·.dst) = some d := by rfl) (hb : L.lookup d = some (.bool b) := by rfl) : JL X ops (o :: l) s F L K := JL.case hb ht hf
theorem cD {c : Operand} {x y : Code} {p : Prop} [Decidable p] (ht : p → J X (.code x :: s) F L K) (hf : ¬ p → J X (.code y :: s) F L K) (hc : evO L c = some (.bool (decide p)) := by rfl) : J X (.code (.cond c x y) :: s) F L K := J.condD hc ht hf
theorem cN {c : Operand} {x y : Code} {p : Prop} [Decidable p] (ht : ¬ p → J X (.code x :: s) F L K) (hf : p → J X (.code y :: s) F L K) (hc : evO L c = some (.bool (!decide p)) := by rfl) : J X (.code (.cond c x y) :: s) F L K := J.condN hc ht hf
theorem cB {c : Operand} {x y : Code} {b : Bool} (ht : b = true → J X (.code x :: s) F L K) (hf : b = false → J X (.code y :: s) F L K) (hc : evO L c = some (.bool b) := by rfl) : J X (.code (.cond c x y) :: s) F L K := J.cond hc ht hf
abbrev C0 (P : Program) (f : FuncId) (args : List Value) (F : Mem) (v : Value) : Prop := C P f args F fun u Y => u = v ∧ Y = []
theorem cl {f d : Nat} {args : Array Operand} {ts : Array TypeId} {vs : List Value} {v : Value} (hk : JL X ops l s F ((d, v) :: L) K)
    (hg : o.guard = none := by rfl) (ho : o.op = .call ⟨.value (.func f), args, ts⟩ := by rfl) (hd : o.dst = some d := by rfl) (hN : d < X.N := by exact Nat.le_of_ble_eq_true rfl) (hargs : mapE (evO L) args.toList = some vs := by rfl) (hfn : fnOk X.P f = true := by kernel_rfl) (h : ∀ ι, Val ι K F → F.le (push ι K F) → C0 X.P f (vs.map (rV ι)) (push ι K F) v) : JL X ops (o :: l) s F L K :=
  JL.callC hg ho hd hN hargs hfn h (by rintro _ _ ⟨rfl, rfl⟩ _ _ _; exact hk)
theorem clg {f d j e : Nat} {want : Bool} {args : Array Operand} {ts : Array TypeId} {vs : List Value} {v : Value} (hk : JL X ops l s F ((d, v) :: L) K)
    (hg : o.guard = some (j, want) := by rfl) (hj : (ops[j]?).bind (·.dst) = some e := by rfl) (hb : L.lookup e = some (.bool want) := by rfl) (ho : o.op = .call ⟨.value (.func f), args, ts⟩ := by rfl) (hd : o.dst = some d := by rfl) (hN : d < X.N := by exact Nat.le_of_ble_eq_true rfl) (hargs : mapE (evO L) args.toList = some vs := by rfl) (hfn : fnOk X.P f = true := by kernel_rfl) (h : ∀ ι, Val ι K F → F.le (push ι K F) → C0 X.P f (vs.map (rV ι)) (push ι K F) v) : JL X ops (o :: l) s F L K :=
  JL.callCG hg hj hb ho hd hN hargs hfn h (by rintro _ _ ⟨rfl, rfl⟩ _ _ _; exact hk)
variable {b : Nat} {D : List Nat} {p : List (Nat × Bool)} {listed : Array Bool}
/-- what an open guard says, in a region that draws -/
theorem JD.case {d : Nat} {q : Bool} (hb : L.lookup d = some (.bool q)) (ht : q = true → JD X l b F0 K0 D p listed s F ((d, .bool true) :: L) K) (hf : q = false → JD X l b F0 K0 D p listed s F ((d, .bool false) :: L) K) : JD X l b F0 K0 D p listed s F L K := by
  intro hp hok ι0 ι a w hF hS hag hS0
  have aux : ∀ r, q = r → Fr X.N ι ((d, .bool r) :: L) a := fun r e => ⟨hF.size, hF.defers, fun s v hv => by
    rw [List.lookup_cons] at hv
    split at hv
    · rename_i e2
      have e1 : s = d := by simpa using e2
      subst e1
      simp only [Option.some.injEq] at hv
      subst hv
      rw [← e]; exact hF.slot s _ hb
    · exact hF.slot s v hv⟩
  cases hq : q with
  | true => exact ht hq hp hok ι0 ι a w (aux true hq) hS hag hS0
  | false => exact hf hq hp hok ι0 ι a w (aux false hq) hS hag hS0
theorem dgD {i j d : Nat} {want k : Bool} {o : Oper} {q : Prop} [Decidable q] (ht : q → JD X l b F0 K0 D ((i, k) :: p) listed s F ((d, .bool true) :: L) K) (hf : ¬ q → JD X l b F0 K0 D ((i, k) :: p) listed s F ((d, .bool false) :: L) K)
    (ho : l[i]? = some o := by rfl) (hg : o.guard = some (j, want) := by rfl) (hj : (l[j]?).bind (·.dst) = some d := by rfl) (hb : L.lookup d = some (.bool (decide q)) := by rfl) : JD X l b F0 K0 D ((i, k) :: p) listed s F L K :=
  JD.case hb (fun h => ht (of_decide_eq_true h)) (fun h => hf (of_decide_eq_false h))
theorem dgN {i j d : Nat} {want k : Bool} {o : Oper} {q : Prop} [Decidable q] (ht : ¬ q → JD X l b F0 K0 D ((i, k) :: p) listed s F ((d, .bool true) :: L) K) (hf : q → JD X l b F0 K0 D ((i, k) :: p) listed s F ((d, .bool false) :: L) K)
    (ho : l[i]? = some o := by rfl) (hg : o.guard = some (j, want) := by rfl) (hj : (l[j]?).bind (·.dst) = some d := by rfl) (hb : L.lookup d = some (.bool (!decide q)) := by rfl) : JD X l b F0 K0 D ((i, k) :: p) listed s F L K :=
  JD.case hb (fun h => ht (by simpa using h)) (fun h => hf (by simpa using h))
theorem dgB {i j d : Nat} {want k q : Bool} {o : Oper} (ht : q = true → JD X l b F0 K0 D ((i, k) :: p) listed s F ((d, .bool true) :: L) K) (hf : q = false → JD X l b F0 K0 D ((i, k) :: p) listed s F ((d, .bool false) :: L) K)
    (ho : l[i]? = some o := by rfl) (hg : o.guard = some (j, want) := by rfl) (hj : (l[j]?).bind (·.dst) = some d := by rfl) (hb : L.lookup d = some (.bool q) := by rfl) : JD X l b F0 K0 D ((i, k) :: p) listed s F L K :=
  JD.case hb ht hf
/-- nothing that the others read has turned: rows were added -/
theorem KSub.refl : ∀ {K : Own}, (K.map Prod.fst).Nodup → KSub K K := by
  have aux : ∀ (K0 K1 : Own), ((K1 ++ K0).map Prod.fst).Nodup → KSub K0 (K1 ++ K0) := by
    intro K0
    induction K0 with
    | nil => intro _ _; trivial
    | cons x K0 ih =>
      intro K1 hn
      refine ⟨mem_lookup hn (by simp), ?_, ?_⟩
      · simp only [List.map_append, List.map_cons] at hn
        have := (List.nodup_append.1 hn).2.1
        simp only [List.nodup_cons] at this
        rw [List.all_eq_true]
        intro y hy
        simp only [bne_iff_ne, ne_eq]
        intro e
        exact this.1 (List.mem_map.2 ⟨y, hy, e⟩)
      · have := ih (K1 ++ [x]) (by simpa using hn)
        simpa using this
  intro K hn
  simpa using aux K [] (by simpa using hn)
theorem Kept.same {F0 : Mem} {K0 : Own} (hn : (K0.map Prod.fst).Nodup := by first | exact List.nodup_nil | (simp; done)) : Kept b F0 K0 listed F0 K0 := .inr ⟨KSub.refl hn, [], rfl⟩
theorem Kept.all (h : listed.getD b false = true := by rfl) : Kept b F0 K0 listed F K := .inl h
theorem dcl {i f d : Nat} {o : Oper} {args : Array Operand} {ts : Array TypeId} {vs : List Value} {v : Value} (hk : JD X l b F0 K0 D p (listed.setIfInBounds i true) s F ((d, v) :: L) K)
    (hkp : Kept b F0 K0 (listed.setIfInBounds i true) F K := by first | exact Kept.same | exact Kept.all) (ho : l[i]? = some o := by rfl) (hg : o.guard = none := by rfl) (hop : o.op = .call ⟨.value (.func f), args, ts⟩ := by rfl) (hd : o.dst = some d := by rfl) (hN : d < X.N := by exact Nat.le_of_ble_eq_true rfl) (hargs : mapE (evO L) args.toList = some vs := by rfl) (hfn : fnOk X.P f = true := by kernel_rfl) (hi9 : i < 10000 := by exact Nat.le_of_ble_eq_true rfl) (h : ∀ ι, Val ι K F → F.le (push ι K F) → C0 X.P f (vs.map (rV ι)) (push ι K F) v) : JD X l b F0 K0 D ((i, false) :: p) listed s F L K :=
  JD.callC_ hi9 ho (fun ι a _ => by simp [Region.wanted, hg]) hop hd hN hargs hfn hkp h (by rintro _ _ ⟨rfl, rfl⟩ _ _ _; exact hk)
theorem dclg {i f d j e : Nat} {want : Bool} {o : Oper} {args : Array Operand} {ts : Array TypeId} {vs : List Value} {v : Value} (hk : JD X l b F0 K0 D p (listed.setIfInBounds i true) s F ((d, v) :: L) K)
    (hkp : Kept b F0 K0 (listed.setIfInBounds i true) F K := by first | exact Kept.same | exact Kept.all) (ho : l[i]? = some o := by rfl) (hg : o.guard = some (j, want) := by rfl) (hj : (l[j]?).bind (·.dst) = some e := by rfl) (hb : L.lookup e = some (.bool want) := by rfl) (hop : o.op = .call ⟨.value (.func f), args, ts⟩ := by rfl) (hd : o.dst = some d := by rfl) (hN : d < X.N := by exact Nat.le_of_ble_eq_true rfl) (hargs : mapE (evO L) args.toList = some vs := by rfl) (hfn : fnOk X.P f = true := by kernel_rfl) (hi9 : i < 10000 := by exact Nat.le_of_ble_eq_true rfl) (h : ∀ ι, Val ι K F → F.le (push ι K F) → C0 X.P f (vs.map (rV ι)) (push ι K F) v) : JD X l b F0 K0 D ((i, false) :: p) listed s F L K :=
  JD.callC_ hi9 ho (fun ι a hF => by rw [JL.wanted (ops := l.toArray) hF hg (by simpa using hj) hb]; simp) hop hd hN hargs hfn hkp h (by rintro _ _ ⟨rfl, rfl⟩ _ _ _; exact hk)
/-- a guarded operation that would do something, passed by -/
theorem dpe {i d j e : Nat} {want q : Bool} {o : Oper} (h : JD X l b F0 K0 D p (listed.setIfInBounds i true) s F ((d, undef) :: L) K) (hkp : Kept b F0 K0 (listed.setIfInBounds i true) F K := by first | exact Kept.same | exact Kept.all) (ho : l[i]? = some o := by rfl) (hg : o.guard = some (j, want) := by rfl) (hj : (l[j]?).bind (·.dst) = some e := by rfl) (hb : L.lookup e = some (.bool q) := by rfl) (hne : (q == want) = false := by rfl) (hd : o.dst = some d := by rfl) (hN : d < X.N := by exact Nat.le_of_ble_eq_true rfl) (hi9 : i < 10000 := by exact Nat.le_of_ble_eq_true rfl) : JD X l b F0 K0 D ((i, false) :: p) listed s F L K :=
  JD.passE hi9 ho hg hj hb hne hd hN hkp h
/-- stores, boxes and the like, in a region that draws -/
theorem dso {Θ : Tab} {i : Nat} {o : Oper} {ty : TypeId} {x y : Operand} {t off : Nat} {v : Value} {r : Row} {ti : Ty} (hk : JD X l b F0 K0 D p (listed.setIfInBounds i true) s F L (setK t { r with cs := putL r.cs off (cellsL v), flat := r.flat && (cellsL v).all plain1 } K))
    (ho' : l[i]? = some o := by rfl) (hg : o.guard = none := by rfl) (ho : o.op = .store ty x y := by rfl) (hd : o.dst = none := by rfl) (hθ : tabOk X.P Θ = true := by exact hT) (hi : Θ.lookup ty = some ti := by rfl)
    (hx : evO L x = some (.pointer (some ⟨t, off, some 0⟩)) := by rfl) (hy : evO L y = some v := by rfl) (hv : okV v = true := by rfl) (hr : K.lookup t = some r := by rfl) (hsz : (cellsL v).length = ti.size := by rfl) (hle : off + (cellsL v).length ≤ r.cs.length := by first | exact Nat.le_of_ble_eq_true rfl | (simp; omega))
    (hkp : Kept b F0 K0 (listed.setIfInBounds i true) F (setK t { r with cs := putL r.cs off (cellsL v), flat := r.flat && (cellsL v).all plain1 } K) := by first | exact Kept.all | exact Or.inr ⟨by first | exact trivial | exact ⟨rfl, rfl, trivial⟩ | exact ⟨rfl, rfl, rfl, rfl, trivial⟩ | exact ⟨rfl, rfl, rfl, rfl, rfl, rfl, trivial⟩ | exact ⟨rfl, rfl, rfl, rfl, rfl, rfl, rfl, rfl, trivial⟩, [], rfl⟩) (hi9 : i < 10000 := by exact Nat.le_of_ble_eq_true rfl) : JD X l b F0 K0 D ((i, false) :: p) listed s F L K :=
  JD.op hi9 ho' hg (Go1.store hθ ho hd hi hx hy hv hr hsz hle ⟨hkp, hk⟩)
theorem dal {Θ : Tab} {i : Nat} {o : Oper} {e : TypeId} {d : Nat} {ti : Ty} (hk : JD X l b F0 K0 D p (listed.setIfInBounds i true) s F ((d, .pointer (some ⟨d, 0, some 0⟩)) :: L) ((d, { elem := e, cs := ti.zero, room := ti.zero.length, flat := false }) :: K))
    (ho' : l[i]? = some o := by rfl) (hg : o.guard = none := by rfl) (ho : o.op = .alloc e := by rfl) (hd : o.dst = some d := by rfl) (hN : d < X.N := by exact Nat.le_of_ble_eq_true rfl) (hθ : tabOk X.P Θ = true := by exact hT) (hi : Θ.lookup e = some ti := by rfl) (h1 : ti.zero.all (·.oneCell') = true := by rfl)
    (hL : ntL d L = true := by rfl) (hK : ntK d K = true := by rfl) (hD : D.contains d = false := by rfl)
    (hkp : Kept b F0 K0 (listed.setIfInBounds i true) F ((d, { elem := e, cs := ti.zero, room := ti.zero.length, flat := false }) :: K) := by first | exact Kept.all | exact Or.inr ⟨by first | exact trivial | exact ⟨rfl, rfl, trivial⟩ | exact ⟨rfl, rfl, rfl, rfl, trivial⟩ | exact ⟨rfl, rfl, rfl, rfl, rfl, rfl, trivial⟩ | exact ⟨rfl, rfl, rfl, rfl, rfl, rfl, rfl, rfl, trivial⟩, [], rfl⟩) (hi9 : i < 10000 := by exact Nat.le_of_ble_eq_true rfl) : JD X l b F0 K0 D ((i, false) :: p) listed s F L K :=
  JD.op hi9 ho' hg (Go1.alloc hθ ho hd hN hi h1 hL hK hD ⟨hkp, hk⟩)
/-- an operation that reads what the region itself has made -/
theorem dv {i d : Nat} {o : Oper} {v : Value} (h : JD X l b F0 K0 D p (listed.setIfInBounds i true) s F ((d, v) :: L) K) (ho : l[i]? = some o := by rfl) (hg : o.guard = none := by rfl) (hd : o.dst = some d := by rfl) (hN : d < X.N := by exact Nat.le_of_ble_eq_true rfl)
    (hv : SD X.P F K L o.op v := by first
      | exact SD.load hT rfl rfl rfl (by first | rfl | assumption)
      | exact SD.loadN hT rfl rfl rfl (by first | rfl | assumption)
      | exact SD.of hT rfl)
    (hkp : Kept b F0 K0 (listed.setIfInBounds i true) F K := by first | exact Kept.all | exact Or.inr ⟨by first | exact trivial | exact ⟨rfl, rfl, trivial⟩ | exact ⟨rfl, rfl, rfl, rfl, trivial⟩ | exact ⟨rfl, rfl, rfl, rfl, rfl, rfl, trivial⟩ | exact ⟨rfl, rfl, rfl, rfl, rfl, rfl, rfl, rfl, trivial⟩, [], rfl⟩) (hi9 : i < 10000 := by exact Nat.le_of_ble_eq_true rfl) : JD X l b F0 K0 D ((i, false) :: p) listed s F L K :=
  JD.op hi9 ho hg (Go1.val hd hN hv ⟨hkp, h⟩)
theorem mk {Θ : Tab} {ty el : TypeId} {x c : Operand} {d : Nat} {ti tj : Ty} {kl kc : IntKind} {qn qm : Int} (hk : JL X ops l s F ((d, .slice (some ⟨d, 0, some 0⟩) qn.toNat qm.toNat) :: L) ((d, { elem := el, cs := zer tj qn.toNat, room := qm.toNat * tj.size, flat := true }) :: K))
    (hg : o.guard = none := by rfl) (ho : o.op = .makeSlice ty x c := by rfl) (hd : o.dst = some d := by rfl) (hN : d < X.N := by exact Nat.le_of_ble_eq_true rfl) (hθ : tabOk X.P Θ = true := by exact hT) (hi : Θ.lookup ty = some ti := by rfl) (hki : ti.k = .slice el := by rfl) (hj : Θ.lookup el = some tj := by rfl)
    (hl : evO L x = some (.int kl qn) := by rfl) (hc : evO L c = some (.int kc qm) := by rfl) (h0 : 0 ≤ qn := by omega) (hnm : qn ≤ qm := by omega) (hb : qm.toNat * tj.bytes ≤ 281474976710656 := by (first | omega | (simp; omega))) (hm2 : qm ≤ 9223372036854775807 := by omega) (hz0 : tj.zero.length = tj.size := by rfl) (hz1 : 0 < tj.size := by exact Nat.le_of_ble_eq_true rfl)
    (hL : ntL d L = true := by rfl) (hK : ntK d K = true := by rfl) (hD : X.D.contains d = false := by rfl) : JL X ops (o :: l) s F L K :=
  JL.step hg (Go1.make hθ ho hd hN hi hki hj hl hc (by omega) (by omega) (by omega) hb (by omega) hz0 hz1 hL hK hD hk)
theorem dmk {Θ : Tab} {i : Nat} {o : Oper} {ty el : TypeId} {x c : Operand} {d : Nat} {ti tj : Ty} {kl kc : IntKind} {qn qm : Int} (hk : JD X l b F0 K0 D p (listed.setIfInBounds i true) s F ((d, .slice (some ⟨d, 0, some 0⟩) qn.toNat qm.toNat) :: L) ((d, { elem := el, cs := zer tj qn.toNat, room := qm.toNat * tj.size, flat := true }) :: K))
    (ho' : l[i]? = some o := by rfl) (hg : o.guard = none := by rfl) (ho : o.op = .makeSlice ty x c := by rfl) (hd : o.dst = some d := by rfl) (hN : d < X.N := by exact Nat.le_of_ble_eq_true rfl) (hθ : tabOk X.P Θ = true := by exact hT) (hi : Θ.lookup ty = some ti := by rfl) (hki : ti.k = .slice el := by rfl) (hj : Θ.lookup el = some tj := by rfl)
    (hl : evO L x = some (.int kl qn) := by rfl) (hc : evO L c = some (.int kc qm) := by rfl) (h0 : 0 ≤ qn := by omega) (hnm : qn ≤ qm := by omega) (hb : qm.toNat * tj.bytes ≤ 281474976710656 := by (first | omega | (simp; omega))) (hm2 : qm ≤ 9223372036854775807 := by omega) (hz0 : tj.zero.length = tj.size := by rfl) (hz1 : 0 < tj.size := by exact Nat.le_of_ble_eq_true rfl)
    (hL : ntL d L = true := by rfl) (hK : ntK d K = true := by rfl) (hD : D.contains d = false := by rfl)
    (hkp : Kept b F0 K0 (listed.setIfInBounds i true) F ((d, { elem := el, cs := zer tj qn.toNat, room := qm.toNat * tj.size, flat := true }) :: K) := by first | exact Kept.all | exact Or.inr ⟨by first | exact trivial | exact ⟨rfl, rfl, trivial⟩ | exact ⟨rfl, rfl, rfl, rfl, trivial⟩ | exact ⟨rfl, rfl, rfl, rfl, rfl, rfl, trivial⟩ | exact ⟨rfl, rfl, rfl, rfl, rfl, rfl, rfl, rfl, trivial⟩, [], rfl⟩) (hi9 : i < 10000 := by exact Nat.le_of_ble_eq_true rfl) : JD X l b F0 K0 D ((i, false) :: p) listed s F L K :=
  JD.op hi9 ho' hg (Go1.make hθ ho hd hN hi hki hj hl hc (by omega) (by omega) (by omega) hb (by omega) hz0 hz1 hL hK hD ⟨hkp, hk⟩)
/-- two makes that may come up, one or the other first -/
theorem dmk2 {Θ : Tab} {i j : Nat} {o o2 : Oper} {ty el ty2 el2 : TypeId} {x c x2 c2 : Operand} {d d2 : Nat} {ti tj ti2 tj2 : Ty} {kl kc kl2 kc2 : IntKind} {qn qm qn2 qm2 : Int}
    (hk : JD X l b F0 K0 D ((j, false) :: p) (listed.setIfInBounds i true) s F ((d, .slice (some ⟨d, 0, some 0⟩) qn.toNat qm.toNat) :: L) ((d, { elem := el, cs := zer tj qn.toNat, room := qm.toNat * tj.size, flat := true }) :: K))
    (hk2 : JD X l b F0 K0 D ((i, false) :: p) (listed.setIfInBounds j true) s F ((d2, .slice (some ⟨d2, 0, some 0⟩) qn2.toNat qm2.toNat) :: L) ((d2, { elem := el2, cs := zer tj2 qn2.toNat, room := qm2.toNat * tj2.size, flat := true }) :: K))
    (hij : i < 100 ∧ j < 100 := by exact ⟨Nat.le_of_ble_eq_true rfl, Nat.le_of_ble_eq_true rfl⟩) (hθ : tabOk X.P Θ = true := by exact hT)
    (ho' : l[i]? = some o := by rfl) (hg : o.guard = none := by rfl) (ho : o.op = .makeSlice ty x c := by rfl) (hd : o.dst = some d := by rfl) (hN : d < X.N := by exact Nat.le_of_ble_eq_true rfl) (hi : Θ.lookup ty = some ti := by rfl) (hki : ti.k = .slice el := by rfl) (hj : Θ.lookup el = some tj := by rfl)
    (hl : evO L x = some (.int kl qn) := by rfl) (hc : evO L c = some (.int kc qm) := by rfl) (h0 : 0 ≤ qn := by omega) (hnm : qn ≤ qm := by omega) (hb : qm.toNat * tj.bytes ≤ 281474976710656 := by (first | omega | (simp; omega))) (hm2 : qm ≤ 9223372036854775807 := by omega) (hz0 : tj.zero.length = tj.size := by rfl) (hz1 : 0 < tj.size := by exact Nat.le_of_ble_eq_true rfl)
    (hL : ntL d L = true := by rfl) (hK : ntK d K = true := by rfl) (hD : D.contains d = false := by rfl)
    (hkp : Kept b F0 K0 (listed.setIfInBounds i true) F ((d, { elem := el, cs := zer tj qn.toNat, room := qm.toNat * tj.size, flat := true }) :: K) := by first | exact Kept.all | exact Or.inr ⟨by first | exact trivial | exact ⟨rfl, rfl, trivial⟩ | exact ⟨rfl, rfl, rfl, rfl, trivial⟩, [], rfl⟩)
    (ho2' : l[j]? = some o2 := by rfl) (hg2 : o2.guard = none := by rfl) (ho2 : o2.op = .makeSlice ty2 x2 c2 := by rfl) (hd2 : o2.dst = some d2 := by rfl) (hN2 : d2 < X.N := by exact Nat.le_of_ble_eq_true rfl) (hi2 : Θ.lookup ty2 = some ti2 := by rfl) (hki2 : ti2.k = .slice el2 := by rfl) (hj2 : Θ.lookup el2 = some tj2 := by rfl)
    (hl2 : evO L x2 = some (.int kl2 qn2) := by rfl) (hc2 : evO L c2 = some (.int kc2 qm2) := by rfl) (h02 : 0 ≤ qn2 := by omega) (hnm2 : qn2 ≤ qm2 := by omega) (hb2 : qm2.toNat * tj2.bytes ≤ 281474976710656 := by (first | omega | (simp; omega))) (hm22 : qm2 ≤ 9223372036854775807 := by omega) (hz02 : tj2.zero.length = tj2.size := by rfl) (hz12 : 0 < tj2.size := by exact Nat.le_of_ble_eq_true rfl)
    (hL2 : ntL d2 L = true := by rfl) (hK2 : ntK d2 K = true := by rfl) (hD2 : D.contains d2 = false := by rfl)
    (hkp2 : Kept b F0 K0 (listed.setIfInBounds j true) F ((d2, { elem := el2, cs := zer tj2 qn2.toNat, room := qm2.toNat * tj2.size, flat := true }) :: K) := by first | exact Kept.all | exact Or.inr ⟨by first | exact trivial | exact ⟨rfl, rfl, trivial⟩ | exact ⟨rfl, rfl, rfl, rfl, trivial⟩, [], rfl⟩) : JD X l b F0 K0 D ((10000 + 100 * i + j, false) :: p) listed s F L K :=
  JD.two hij.1 hij.2 ho' ho2' hg hg2 (Go1.make hθ ho hd hN hi hki hj hl hc (by omega) (by omega) (by omega) hb (by omega) hz0 hz1 hL hK hD ⟨hkp, hk⟩) (Go1.make hθ ho2 hd2 hN2 hi2 hki2 hj2 hl2 hc2 (by omega) (by omega) (by omega) hb2 (by omega) hz02 hz12 hL2 hK2 hD2 ⟨hkp2, hk2⟩)
/-- a box, in a region that draws -/
theorem dbx {i : Nat} {o : Oper} {e : TypeId} {x : Operand} {d : Nat} {v : Value} (hk : JD X l b F0 K0 D p (listed.setIfInBounds i true) s F ((d, .pointer (some ⟨d, 0, some 0⟩)) :: L) ((d, { elem := e, cs := cellsL v, room := (cellsL v).length, flat := false }) :: K))
    (ho' : l[i]? = some o := by rfl) (hg : o.guard = none := by rfl) (ho : o.op = .box e x := by rfl) (hd : o.dst = some d := by rfl) (hN : d < X.N := by exact Nat.le_of_ble_eq_true rfl) (hx : evO L x = some v := by rfl) (hv : okV v = true := by rfl)
    (hL : ntL d L = true := by rfl) (hK : ntK d K = true := by rfl) (hD : D.contains d = false := by rfl)
    (hkp : Kept b F0 K0 (listed.setIfInBounds i true) F ((d, { elem := e, cs := cellsL v, room := (cellsL v).length, flat := false }) :: K) := by first | exact Kept.all | exact Or.inr ⟨by first | exact trivial | exact ⟨rfl, rfl, trivial⟩ | exact ⟨rfl, rfl, rfl, rfl, trivial⟩, [], rfl⟩) (hi9 : i < 10000 := by exact Nat.le_of_ble_eq_true rfl) : JD X l b F0 K0 D ((i, false) :: p) listed s F L K :=
  JD.op hi9 ho' hg (Go1.box ho hd hN hx hv hL hK hD ⟨hkp, hk⟩)
end
/-! What is read. -/
/-- a slice of numbers, told by what stands in it -/
def RInts (F : Mem) (v : Value) (xs : List Int) : Prop :=
  (∃ b off c, v = .slice (some ⟨b, off, none⟩) xs.length c ∧ xs.length ≤ 9223372036854775807 ∧ ∀ i x, xs[i]? = some x → look F ⟨b, off + i, none⟩ = some (.int .i64 x)) ∨ (v = .slice none 0 0 ∧ xs = [])
theorem RInts.le {F F' : Mem} {v : Value} {xs : List Int} (h : RInts F v xs) (hl : F.le F') : RInts F' v xs := by
  rcases h with ⟨b, off, c, h1, h2, h3⟩ | h
  · exact .inl ⟨b, off, c, h1, h2, fun i x hx => hl _ _ (h3 i x hx)⟩
  · exact .inr h
end Go.Proofs.Ytbeblgjibfoanaa.Am
