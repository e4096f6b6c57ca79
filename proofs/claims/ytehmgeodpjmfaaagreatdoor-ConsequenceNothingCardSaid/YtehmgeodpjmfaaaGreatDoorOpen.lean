/- law 50: the frame's parts: arguments opened, the witness's world. -/
import Derived.Test.YtehmgeodpjmfaaaGreatDoorCards
import Derived.Test.YtehmgeodpjmfaaaGreatDoorTie
import Derived.WalkKit
import Derived.ProofKit
import Derived.OpenShut
import Derived.Deep.Slices
import Derived.Deep.DeepHandedRow
import Derived.Deep.DeepWitnessRowRef
import Derived.Test.YtehmgeodpjmfaaaGreatDoorItem
namespace Go.Proofs.YtehmgeodpjmfaaaGreatDoor
open Go.ChangeShapes Go.WideShapes Go.ChangeAt Go.RowKit Go.Deep

theorem own : ownKnob Tryz.prog.godebug = none := by kernel_rfl
theorem laidOut : laidOutB Tryz.prog = true := by kernel_rfl
instance : Inhabited ItemS := ⟨⟨0, 0, 0, 0, ⟨#[]⟩⟩⟩
theorem u8_wf {n : Int} (h : (Lit.int .u8 n).wf = true) : ∃ m : Nat, n = (m : Int) ∧ m < 256 := by
  simp [Lit.wf, IntKind.min, IntKind.max, IntKind.signed, IntKind.bits] at h
  exact ⟨n.toNat, by omega, by omega⟩
section
variable {H : Type} {enc : TypeId × Value → H} {W : World}
theorem open_item {fuel : Nat} {cs : List Value} {x : DataW H × List MemPlace} (h : DataW.trod enc Tryz.prog W 0 (fun _ => true) true fuel 84 cs = some x) : ∃ y : ItemS, ItemOk y ∧ cs = encI5 y := by
  have u := Tryz.underlying84
  have u8 := Tryz.underlying5
  have us := Tryz.underlying9
  have c0 : Tryz.prog.cellsOf 84 = 5 := by kernel_rfl
  have c1 : Tryz.prog.cellsOf 5 = 1 := by kernel_rfl
  have c2 : Tryz.prog.cellsOf 9 = 1 := by kernel_rfl
  generalize Tryz.prog = P at *
  obtain ⟨xs, k, _, _, hl, hxl, hf⟩ := DataW.trod_struct u h
  rw [c0] at hl
  match xs, hxl, cs, hl with
  | [y0, y1, y2, y3, y4], _, [v0, v1, v2, v3, v4], _ =>
    have g0 := hf 0 _ rfl
    have g1 := hf 1 _ rfl
    have g2 := hf 2 _ rfl
    have g3 := hf 3 _ rfl
    have g4 := hf 4 _ rfl
    simp [c1, c2] at g0 g1 g2 g3 g4
    obtain ⟨n0, e0, _, w0⟩ := DataW.trod_int u8 g0
    obtain ⟨n1, e1, _, w1⟩ := DataW.trod_int u8 g1
    obtain ⟨n2, e2, _, w2⟩ := DataW.trod_int u8 g2
    obtain ⟨n3, e3, _, w3⟩ := DataW.trod_int u8 g3
    obtain ⟨s, e4, _, w4⟩ := DataW.trod_string us g4
    obtain ⟨m0, rfl, k0⟩ := u8_wf w0
    obtain ⟨m1, rfl, k1⟩ := u8_wf w1
    obtain ⟨m2, rfl, k2⟩ := u8_wf w2
    obtain ⟨m3, rfl, k3⟩ := u8_wf w3
    simp at e0 e1 e2 e3 e4
    subst e0 e1 e2 e3 e4
    exact ⟨⟨m0, m1, m2, m3, s⟩, ⟨k0, k1, k2, k3, by unfold maxLen at w4; omega⟩, rfl⟩
/-- A []Item that came in. -/
theorem open_items {v : Value} {x : DataW H × List MemPlace} (h : ∃ fuel, DataW.trod enc Tryz.prog W 0 (fun _ => true) true fuel 22 [v] = some x) : ∃ l : List ItemS, Rd W 5 encI5 v l ∧ ∀ y ∈ l, ItemOk y := by
  obtain ⟨fuel, h⟩ := h
  have c0 : Tryz.prog.cellsOf 84 = 5 := by kernel_rfl
  rcases open_slice Tryz.underlying22 h with ⟨h0, _⟩ | ⟨a, len, cap, m, n, D, Pl, hcs, _, hl, hm, hmm, _, hel⟩
  · simp only [List.cons.injEq, and_true] at h0
    subst h0
    exact ⟨[], Rd.nil _ _ _, fun y hy => by cases hy⟩
  · simp only [List.cons.injEq, and_true] at hcs
    subst hcs
    have each : ∀ i, i < len → ∃ y : ItemS, ItemOk y ∧ ∀ k u, (encI5 y)[k]? = some u → W.cell? ((a.add (i * 5)).add k) = some u := fun i hi => by
      obtain ⟨cs', h1, h2⟩ := hel i (by rw [hmm]; simpa using (by omega : i < cap))
      rw [c0] at h1
      obtain ⟨_, hlen, hc⟩ := World.cells?_some h1
      obtain ⟨y, hy, rfl⟩ := open_item h2
      refine ⟨y, hy, fun k u hu => ?_⟩
      rw [hc k (by have := (List.getElem?_eq_some_iff.1 hu).1; omega), hu]
    obtain ⟨f, hf⟩ := choose_lt each
    refine ⟨(List.range len).map f, ⟨by simp; unfold maxLen at hm; omega, some a, cap, by simp, fun h0 => ?_⟩, fun y hy => ?_⟩
    · have h0' : 0 < len := by simpa using h0
      obtain ⟨b, off, spot⟩ := a
      have hz := (hf 0 h0').2 0 _ rfl
      have hspot : spot = none := by simpa [Addr.add] using World.cell?_spot hz
      subst hspot
      refine ⟨b, off, rfl, by simpa [Addr.add] using World.block_lt_of_cell? _ _ hz, fun j hj i u hu => ?_⟩
      have hj' : j < len := by simpa using hj
      have := (hf j hj').2 i u (by simpa using hu)
      rw [add_plain, add_plain] at this
      exact this
    · obtain ⟨i, hi, rfl⟩ := List.mem_map.1 hy
      exact (hf i (List.mem_range.1 hi)).1
end

/-! The witness's world: five variables that hold what their initialisers lay. -/
def tabOf (d : DataW Unit) : Array Value :=
  match d with
  | .agg xs => (xs.map fun y => match y with | .lit (.int k n) => Value.int k n | _ => .int .i64 0).toArray
  | _ => #[]
noncomputable def low : Nat := (World.holding Tryz.prog default ⟨#[], #[], []⟩).heap.size
noncomputable def laidWorld (os : Os) : World :=
  let w0 := World.holding Tryz.prog os ⟨#[.cells #[.string ⟨#[118, 97, 108, 117, 101, 32, 111, 117, 116, 32, 111, 102, 32, 114, 97, 110, 103, 101]⟩] 268, .cells #[.string ⟨#[105, 110, 118, 97, 108, 105, 100, 32, 115, 121, 110, 116, 97, 120]⟩] 268], #[], []⟩
  let put (h : Array Obj) (g : Nat) (cs : Array Value) : Array Obj := h.modify g fun
    | .cells _ t frozen => .cells cs t frozen
    | o => o
  let h1 := put w0.heap 1 #[.iface 266 (.pointer (some ⟨low + 1, 0, none⟩))]
  let h2 := put h1 2 #[.iface 266 (.pointer (some ⟨low, 0, none⟩))]
  let h3 := put h2 3 (tabOf Rows.laid_internal_strconv_uint64pow10)
  let h4 := put h3 4 (tabOf Rows.laid_math_bits_deBruijn32tab)
  let h5 := put h4 5 (tabOf Rows.laid_math_bits_deBruijn64tab)
  { w0 with heap := h5 }
abbrev laid5 : List (String × DataW Unit) := [("math/bits.deBruijn32tab", Rows.laid_math_bits_deBruijn32tab), ("math/bits.deBruijn64tab", Rows.laid_math_bits_deBruijn64tab), ("internal/strconv.uint64pow10", Rows.laid_internal_strconv_uint64pow10), ("strconv.ErrRange", Rows.laid_strconv_ErrRange), ("strconv.ErrSyntax", Rows.laid_strconv_ErrSyntax)]
theorem laid_met (os : Os) (args : Array Value) : laidMet Tryz.prog laid5 ((laidWorld os).forCall (fun _ _ => 0) ⟨#[], args, []⟩).memory :=
  laidMet_of_run' 8 (by kernel_rfl) (by kernel_rfl)
end Go.Proofs.YtehmgeodpjmfaaaGreatDoor
