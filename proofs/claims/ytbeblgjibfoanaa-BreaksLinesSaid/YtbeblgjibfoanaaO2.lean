/- What is handed in: items, a paragraph's form -/
import Derived.Test.YtbeblgjibfoanaaU2
import Derived.Test.YtbeblgjibfoanaaO1
namespace Go.Proofs.Ytbeblgjibfoanaa.Am
set_option linter.unusedSimpArgs false
set_option linter.unusedVariables false
set_option maxRecDepth 100000
set_option maxHeartbeats 4000000
open Go Go.RowKit
section
variable {H : Type} {enc : TypeId × Value → H} {W : World}
theorem Item.plain_cells (x : Item) {g : Value} (h : plain1 g = true) : ∀ u ∈ x.cells g, plain1 u = true := by
  intro u hu
  simp only [Item.cells, List.mem_cons, List.not_mem_nil, or_false] at hu
  rcases hu with rfl | rfl | rfl | rfl | rfl | rfl | rfl | rfl | rfl | rfl | rfl <;> first | rfl | exact h
theorem open_item {fuel : Nat} {cs : List Value} {y : DataW H × List MemPlace} (hy : DataW.trod enc Try.prog W 0 (fun _ => true) true fuel 49 cs = some y) (hw : ∀ n ∈ y.1.weights Try.prog 49, n ≤ reachBytes) :
    ∃ (x : Item) (g : Value), cs.map e1 = x.cells g ∧ plain1 g = true ∧ RGl ⟨W, []⟩ g x.glyphs ∧ x.glyphs.length * 8 ≤ 140737488351232 := by
  obtain ⟨xs, n, _, rfl, hl, hxl, hx⟩ := DataW.trod_struct Try.underlying49 hy
  rw [show Try.prog.cellsOf 49 = 11 from by kernel_rfl] at hl
  have c3 : Try.prog.cellsOf 3 = 1 := by kernel_rfl
  have c4 : Try.prog.cellsOf 4 = 1 := by kernel_rfl
  have c28 : Try.prog.cellsOf 28 = 1 := by kernel_rfl
  match cs, hl with
  | [u0, u1, u2, u3, u4, u5, u6, u7, u8, u9, u10], _ =>
    have hxl' : xs.length = 11 := hxl
    match xs, hxl' with
    | [z0, z1, z2, z3, z4, z5, z6, z7, z8, z9, z10], _ =>
      have h0 : DataW.trod enc Try.prog W 0 (fun _ => true) true n 3 (([u0, u1, u2, u3, u4, u5, u6, u7, u8, u9, u10].drop 0).take (Try.prog.cellsOf 3)) = some z0 := hx 0 _ rfl
      have h1 : DataW.trod enc Try.prog W 0 (fun _ => true) true n 3 (([u0, u1, u2, u3, u4, u5, u6, u7, u8, u9, u10].drop 1).take (Try.prog.cellsOf 3)) = some z1 := hx 1 _ rfl
      have h2 : DataW.trod enc Try.prog W 0 (fun _ => true) true n 3 (([u0, u1, u2, u3, u4, u5, u6, u7, u8, u9, u10].drop 2).take (Try.prog.cellsOf 3)) = some z2 := hx 2 _ rfl
      have h3 : DataW.trod enc Try.prog W 0 (fun _ => true) true n 3 (([u0, u1, u2, u3, u4, u5, u6, u7, u8, u9, u10].drop 3).take (Try.prog.cellsOf 3)) = some z3 := hx 3 _ rfl
      have h4 : DataW.trod enc Try.prog W 0 (fun _ => true) true n 3 (([u0, u1, u2, u3, u4, u5, u6, u7, u8, u9, u10].drop 4).take (Try.prog.cellsOf 3)) = some z4 := hx 4 _ rfl
      have h5 : DataW.trod enc Try.prog W 0 (fun _ => true) true n 4 (([u0, u1, u2, u3, u4, u5, u6, u7, u8, u9, u10].drop 5).take (Try.prog.cellsOf 4)) = some z5 := hx 5 _ rfl
      have h6 : DataW.trod enc Try.prog W 0 (fun _ => true) true n 3 (([u0, u1, u2, u3, u4, u5, u6, u7, u8, u9, u10].drop 6).take (Try.prog.cellsOf 3)) = some z6 := hx 6 _ rfl
      have h7 : DataW.trod enc Try.prog W 0 (fun _ => true) true n 3 (([u0, u1, u2, u3, u4, u5, u6, u7, u8, u9, u10].drop 7).take (Try.prog.cellsOf 3)) = some z7 := hx 7 _ rfl
      have h8 : DataW.trod enc Try.prog W 0 (fun _ => true) true n 3 (([u0, u1, u2, u3, u4, u5, u6, u7, u8, u9, u10].drop 8).take (Try.prog.cellsOf 3)) = some z8 := hx 8 _ rfl
      have h9 : DataW.trod enc Try.prog W 0 (fun _ => true) true n 3 (([u0, u1, u2, u3, u4, u5, u6, u7, u8, u9, u10].drop 9).take (Try.prog.cellsOf 3)) = some z9 := hx 9 _ rfl
      have h10 : DataW.trod enc Try.prog W 0 (fun _ => true) true n 28 (([u0, u1, u2, u3, u4, u5, u6, u7, u8, u9, u10].drop 10).take (Try.prog.cellsOf 28)) = some z10 := hx 10 _ rfl
      rw [c3] at h0 h1 h2 h3 h4 h6 h7 h8 h9
      rw [c4] at h5
      rw [c28] at h10
      obtain ⟨k0, e0', _, _⟩ := DataW.trod_int Try.underlying3 h0
      obtain ⟨k1, e1', _, _⟩ := DataW.trod_int Try.underlying3 h1
      obtain ⟨k2, e2', _, _⟩ := DataW.trod_int Try.underlying3 h2
      obtain ⟨k3, e3', _, _⟩ := DataW.trod_int Try.underlying3 h3
      obtain ⟨k4, e4', _, _⟩ := DataW.trod_int Try.underlying3 h4
      obtain ⟨k5, e5', _⟩ := DataW.trod_bool Try.underlying4 h5
      obtain ⟨k6, e6', _, _⟩ := DataW.trod_int Try.underlying3 h6
      obtain ⟨k7, e7', _, _⟩ := DataW.trod_int Try.underlying3 h7
      obtain ⟨k8, e8', _, _⟩ := DataW.trod_int Try.underlying3 h8
      obtain ⟨k9, e9', _, _⟩ := DataW.trod_int Try.underlying3 h9
      have hw10 : ∀ n ∈ z10.1.weights Try.prog 28, n ≤ reachBytes := fun n hn => hw n (by
        simp only [DataW.weights, Try.underlying49]
        exact DataW.weights_mem_each (j := 10) rfl rfl n hn)
      obtain ⟨g, gs, e10', hr, hb, _, hp, a, gl, gc, rfl⟩ := open_ints Try.underlying28 Try.underlying3 c3 (by kernel_rfl) h10 hw10
      simp only [List.drop_succ_cons, List.drop_zero, List.take_succ_cons, List.take_zero, List.cons.injEq, and_true] at e0' e1' e2' e3' e4' e5' e6' e7' e8' e9' e10'
      subst e0' e1' e2' e3' e4' e5' e6' e7' e8' e9' e10'
      refine ⟨⟨k0, k1, k2, k3, k4, k5, k6, k7, k8, k9, gs⟩, e1 (.slice a gl gc), rfl, hp, ?_, hb⟩
      rcases hr with hr | ⟨b, o, s, hr, rfl⟩
      · exact .inl hr
      · rw [hr]; exact .inr ⟨b, o, s, rfl, rfl⟩
theorem open_items {fuel : Nat} {cs : List Value} {y : DataW H × List MemPlace} (hy : DataW.trod enc Try.prog W 0 (fun _ => true) true fuel 22 cs = some y) (hw : ∀ n ∈ y.1.weights Try.prog 22, n ≤ reachBytes) (hs : ∀ b o s n c, cs ≠ [.slice (some ⟨b, o, some s⟩) n c]) :
    ∃ (v : Value) (l : List Item), cs = [v] ∧ RItems ⟨W, []⟩ v l ∧ (∀ x ∈ l, x.glyphs.length * 8 ≤ 140737488355328) := by
  rcases open_slice 104 11 Try.underlying22 (by kernel_rfl) (by kernel_rfl) (by decide) hy hw with rfl | ⟨b, o, s, rfl⟩ | ⟨b, o, len, cap, rfl, hl, hm, hb, each⟩
  · exact ⟨_, [], rfl, .inr ⟨rfl, rfl⟩, fun x hx => by cases hx⟩
  · exact absurd rfl (hs b o s 0 0)
  · obtain ⟨l, hll, hls⟩ := pick_list (Q := fun i (x : Item) => (∃ g, lookN ⟨W, []⟩ ⟨b, o + i * 11, none⟩ 11 = some (x.cells g) ∧ RGl ⟨W, []⟩ g x.glyphs) ∧ x.glyphs.length * 8 ≤ 140737488351232) len (fun i hi => by
      obtain ⟨c, n, z, h1, h2, h3, h4⟩ := each i hi
      obtain ⟨x, g, hc, hp, hg, hgb⟩ := open_item h3 h4
      refine ⟨x, ⟨g, ?_, hg⟩, hgb⟩
      have := lookN_of (F := ⟨W, []⟩) (a := ⟨b, o + i * 11, none⟩) (cs := x.cells g) (fun j v hv => by
        rw [← hc, List.getElem?_map] at hv
        cases hu : c[j]? with
        | none => simp [hu] at hv
        | some u =>
          simp only [hu, Option.map_some, Option.some.injEq] at hv
          subst hv
          exact look_w (h2 j u hu) (Item.plain_cells x hp _ (by rw [← hc]; exact List.mem_map.2 ⟨u, List.mem_of_getElem? hu, rfl⟩)))
      exact this)
    refine ⟨_, l, rfl, .inl ⟨b, o, cap, by rw [hll], by omega, fun i x hx => (hls i x hx).1⟩, fun x hx => ?_⟩
    obtain ⟨i, hi⟩ := List.getElem?_of_mem hx
    have := (hls i x hi).2
    omega
theorem open_par {fuel : Nat} {cs : List Value} {y : DataW H × List MemPlace} (hy : DataW.trod enc Try.prog W 0 (fun _ => true) true fuel 24 cs = some y) : ∃ x : Par, (.agg ⟨cs⟩ : Value) = x.v := by
  obtain ⟨xs, n, _, rfl, hl, hxl, hx⟩ := DataW.trod_struct Try.underlying24 hy
  rw [show Try.prog.cellsOf 24 = 5 from by kernel_rfl] at hl
  have c3 : Try.prog.cellsOf 3 = 1 := by kernel_rfl
  match cs, hl with
  | [u0, u1, u2, u3, u4], _ =>
    have hxl' : xs.length = 5 := hxl
    match xs, hxl' with
    | [z0, z1, z2, z3, z4], _ =>
      have h0 : DataW.trod enc Try.prog W 0 (fun _ => true) true n 3 (([u0, u1, u2, u3, u4].drop 0).take (Try.prog.cellsOf 3)) = some z0 := hx 0 _ rfl
      have h1 : DataW.trod enc Try.prog W 0 (fun _ => true) true n 3 (([u0, u1, u2, u3, u4].drop 1).take (Try.prog.cellsOf 3)) = some z1 := hx 1 _ rfl
      have h2 : DataW.trod enc Try.prog W 0 (fun _ => true) true n 3 (([u0, u1, u2, u3, u4].drop 2).take (Try.prog.cellsOf 3)) = some z2 := hx 2 _ rfl
      have h3 : DataW.trod enc Try.prog W 0 (fun _ => true) true n 3 (([u0, u1, u2, u3, u4].drop 3).take (Try.prog.cellsOf 3)) = some z3 := hx 3 _ rfl
      have h4 : DataW.trod enc Try.prog W 0 (fun _ => true) true n 3 (([u0, u1, u2, u3, u4].drop 4).take (Try.prog.cellsOf 3)) = some z4 := hx 4 _ rfl
      rw [c3] at h0 h1 h2 h3 h4
      obtain ⟨k0, e0', _, _⟩ := DataW.trod_int Try.underlying3 h0
      obtain ⟨k1, e1', _, _⟩ := DataW.trod_int Try.underlying3 h1
      obtain ⟨k2, e2', _, _⟩ := DataW.trod_int Try.underlying3 h2
      obtain ⟨k3, e3', _, _⟩ := DataW.trod_int Try.underlying3 h3
      obtain ⟨k4, e4', _, _⟩ := DataW.trod_int Try.underlying3 h4
      simp only [List.drop_succ_cons, List.drop_zero, List.take_succ_cons, List.take_zero, List.cons.injEq, and_true] at e0' e1' e2' e3' e4'
      subst e0' e1' e2' e3' e4'
      exact ⟨⟨k0, k1, k2, k3, k4⟩, rfl⟩
theorem open_pair {fuel : Nat} {cs : List Value} {y : DataW H × List MemPlace} (hy : DataW.trod enc Try.prog W 0 (fun _ => true) true fuel 52 cs = some y) : ∃ a b : Int, (.agg ⟨cs⟩ : Value) = .agg #[.int .i64 a, .int .i64 b] := by
  obtain ⟨xs, n, _, rfl, hl, hxl, hx⟩ := DataW.trod_struct Try.underlying52 hy
  rw [show Try.prog.cellsOf 52 = 2 from by kernel_rfl] at hl
  have c3 : Try.prog.cellsOf 3 = 1 := by kernel_rfl
  match cs, hl with
  | [u0, u1], _ =>
    have hxl' : xs.length = 2 := hxl
    match xs, hxl' with
    | [z0, z1], _ =>
      have h0 : DataW.trod enc Try.prog W 0 (fun _ => true) true n 3 (([u0, u1].drop 0).take (Try.prog.cellsOf 3)) = some z0 := hx 0 _ rfl
      have h1 : DataW.trod enc Try.prog W 0 (fun _ => true) true n 3 (([u0, u1].drop 1).take (Try.prog.cellsOf 3)) = some z1 := hx 1 _ rfl
      rw [c3] at h0 h1
      obtain ⟨k0, e0', _, _⟩ := DataW.trod_int Try.underlying3 h0
      obtain ⟨k1, e1', _, _⟩ := DataW.trod_int Try.underlying3 h1
      simp only [List.drop_succ_cons, List.drop_zero, List.take_succ_cons, List.take_zero, List.cons.injEq, and_true] at e0' e1'
      subst e0' e1'
      exact ⟨k0, k1, rfl⟩
end

end Go.Proofs.Ytbeblgjibfoanaa.Am
