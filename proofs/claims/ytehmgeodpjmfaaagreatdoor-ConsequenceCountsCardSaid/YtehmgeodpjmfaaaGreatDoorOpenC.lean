/- law 50: a Consequence that came in, opened. -/
import Derived.Test.YtehmgeodpjmfaaaGreatDoorOpen
import Derived.Test.YtehmgeodpjmfaaaGreatDoorEqual
namespace Go.Proofs.YtehmgeodpjmfaaaGreatDoor
open Go.ChangeShapes Go.WideShapes Go.ChangeAt Go.RowKit Go.Deep

theorem i64_wf {n : Int} (h : (Lit.int .i64 n).wf = true) : I64 n := by
  simp [Lit.wf, IntKind.min, IntKind.max, IntKind.signed, IntKind.bits] at h
  unfold I64
  omega
section
variable {H : Type} {enc : TypeId × Value → H} {W : World}
theorem open_out {fuel : Nat} {cs : List Value} {x : DataW H × List MemPlace} (h : DataW.trod enc Tryz.prog W 0 (fun _ => true) true fuel 35 cs = some x) : ∃ o : OutS, OutOk o ∧ cs = [.int .i64 o.chan, .string o.target, .string o.text, .int .i64 o.user] ∧
    ((∀ m ∈ x.1.weights Tryz.prog 35, m ≤ 140737488351232) → o.text.size ≤ 140737488351232) := by
  have u := Tryz.underlying35
  have ui := Tryz.underlying3
  have us := Tryz.underlying9
  have c0 : Tryz.prog.cellsOf 35 = 4 := by kernel_rfl
  have c1 : Tryz.prog.cellsOf 3 = 1 := by kernel_rfl
  have c2 : Tryz.prog.cellsOf 9 = 1 := by kernel_rfl
  generalize Tryz.prog = P at *
  obtain ⟨xs, k, _, hx, hl, hxl, hf⟩ := DataW.trod_struct u h
  rw [c0] at hl
  match xs, hxl, cs, hl with
  | [y0, y1, y2, y3], _, [v0, v1, v2, v3], _ =>
    have g0 := hf 0 _ rfl
    have g1 := hf 1 _ rfl
    have g2 := hf 2 _ rfl
    have g3 := hf 3 _ rfl
    simp [c1, c2] at g0 g1 g2 g3
    obtain ⟨n0, e0, rfl, w0⟩ := DataW.trod_int ui g0
    obtain ⟨s1, e1, rfl, w1⟩ := DataW.trod_string us g1
    obtain ⟨s2, e2, rfl, w2⟩ := DataW.trod_string us g2
    obtain ⟨n3, e3, rfl, w3⟩ := DataW.trod_int ui g3
    simp at e0 e1 e2 e3
    subst e0 e1 e2 e3
    refine ⟨⟨n0, s1, s2, n3⟩, ⟨i64_wf w0, by unfold SOk; unfold maxLen at w1; omega, by unfold SOk; unfold maxLen at w2; omega, i64_wf w3⟩, rfl, fun hm => ?_⟩
    have := hm s2.data.toList.length (by
      rw [hx]
      simp [DataW.weights, u, DataW.weightsEach])
    simpa using this
theorem open_cons1 {fuel : Nat} {cs : List Value} {x : DataW H × List MemPlace} (h : DataW.trod enc Tryz.prog W 0 (fun _ => true) true fuel 37 cs = some x) : ∃ c : ConsS, ConsOk c ∧ cs = encC c ∧
    ((∀ m ∈ x.1.weights Tryz.prog 37, m ≤ 140737488351232) → c.own.size ≤ 140737488351232 ∧ c.old.text.size ≤ 140737488351232) := by
  have u := Tryz.underlying37
  have ui := Tryz.underlying3
  have us := Tryz.underlying33
  have c0 : Tryz.prog.cellsOf 37 = 14 := by kernel_rfl
  have c1 : Tryz.prog.cellsOf 3 = 1 := by kernel_rfl
  have c2 : Tryz.prog.cellsOf 33 = 1 := by kernel_rfl
  have c3 : Tryz.prog.cellsOf 35 = 4 := by kernel_rfl
  have ho := fun (fuel : Nat) (cs : List Value) (x : DataW H × List MemPlace) h => open_out (H := H) (enc := enc) (W := W) (fuel := fuel) (cs := cs) (x := x) h
  generalize Tryz.prog = P at *
  obtain ⟨xs, k, _, hx, hl, hxl, hf⟩ := DataW.trod_struct u h
  rw [c0] at hl
  match xs, hxl, cs, hl with
  | [y0, y1, y2, y3, y4, y5, y6, y7], _, [v0, v1, v2, v3, v4, v5, v6, v7, v8, v9, v10, v11, v12, v13], _ =>
    have g0 := hf 0 _ rfl
    have g1 := hf 1 _ rfl
    have g2 := hf 2 _ rfl
    have g3 := hf 3 _ rfl
    have g4 := hf 4 _ rfl
    have g5 := hf 5 _ rfl
    have g6 := hf 6 _ rfl
    have g7 := hf 7 _ rfl
    simp [c1, c2, c3] at g0 g1 g2 g3 g4 g5 g6 g7
    obtain ⟨n0, e0, rfl, w0⟩ := DataW.trod_int ui g0
    obtain ⟨s1, e1, rfl, w1⟩ := DataW.trod_string us g1
    obtain ⟨n2, e2, rfl, w2⟩ := DataW.trod_int ui g2
    obtain ⟨n3, e3, rfl, w3⟩ := DataW.trod_int ui g3
    obtain ⟨o4, k4, e4, w4⟩ := ho _ _ _ g4
    obtain ⟨n5, e5, rfl, w5⟩ := DataW.trod_int ui g5
    obtain ⟨o6, k6, e6, w6⟩ := ho _ _ _ g6
    obtain ⟨n7, e7, rfl, w7⟩ := DataW.trod_int ui g7
    simp at e0 e1 e2 e3 e4 e5 e6 e7
    obtain ⟨rfl, rfl, rfl, rfl⟩ := e4
    obtain ⟨rfl, rfl, rfl, rfl⟩ := e6
    subst e0 e1 e2 e3 e5 e7
    refine ⟨⟨n0, s1, n2, n3, o4, n5, o6, n7⟩, ⟨i64_wf w0, by unfold SOk; unfold maxLen at w1; omega, i64_wf w2, i64_wf w3, k4, i64_wf w5, k6, i64_wf w7⟩, rfl, fun hm => ⟨?_, ?_⟩⟩
    · have := hm s1.data.toList.length (by
        rw [hx]
        simp [DataW.weights, u, DataW.weightsEach])
      simpa using this
    · refine w4 (fun m hm' => hm m ?_)
      rw [hx]
      simp [DataW.weights, u, DataW.weightsEach, hm']
theorem open_cons {v : Value} {d : DataW H} {p : List MemPlace} (h : DataW.Trod enc Tryz.prog W 0 (fun _ => true) true 37 v d p) : ∃ c : ConsS, ConsOk c ∧ v.cells.toList = encC c ∧
    ((∀ m ∈ d.weights Tryz.prog 37, m ≤ 140737488351232) → c.own.size ≤ 140737488351232 ∧ c.old.text.size ≤ 140737488351232) := by
  obtain ⟨fuel, h⟩ := h
  exact open_cons1 h
end
end Go.Proofs.YtehmgeodpjmfaaaGreatDoor
