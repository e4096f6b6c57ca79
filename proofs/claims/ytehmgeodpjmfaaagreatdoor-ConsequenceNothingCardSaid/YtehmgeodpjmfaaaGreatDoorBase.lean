/- Words that every text of this claim uses: what a world keeps, slices that are read, regions whose calls lay blocks. No program. -/
import Derived.WalkKit
import Derived.OwnWalk
import Derived.WalkSpells
import Derived.WalkLawsBesides
import Derived.WalkSmall
import Derived.Deep.QuietTactic
import Derived.BigQuiet
import Derived.KernelRfl
import Derived.Lib.Hide
namespace Go.Proofs.YtehmgeodpjmfaaaGreatDoor
open Go.RowKit

/-- w' is w with draws and new blocks: nothing that lay in w has turned. -/
def Ext (w w' : World) : Prop := Below w.heap.size w w'
theorem Ext.refl (w : World) : Ext w w := Below.refl _ _
theorem Ext.size {w w' : World} (h : Ext w w') : w.heap.size ≤ w'.heap.size := Below.size h
theorem Ext.trans {a b c : World} (h : Ext a b) (k : Ext b c) : Ext a c := Below.trans h (Below.mono k h.size)
theorem Ext.alloc {a w : World} (h : Ext a w) (o : Obj) : Ext a (w.alloc o) := Below.alloc h h.size o
theorem Ext.drew {a w : World} (h : Ext a w) : Ext a w.drew := Below.drew h
theorem Ext.drewN {a w : World} (h : Ext a w) (n : Nat) : Ext a (w.drewN n) := below_drewN h n
theorem Ext.setCell {a w : World} (h : Ext a w) {p : Addr} (hp : a.heap.size ≤ p.block) (u : Value) : Ext a (w.setCell p u) := Below.setCell h hp u
theorem Ext.cell {w w' : World} (h : Ext w w') {p : Addr} (hp : p.block < w.heap.size) : w'.cell? p = w.cell? p := Below.cell h hp
theorem Ext.frozen {w w' : World} (h : Ext w w') {p : Addr} (hp : p.block < w.heap.size) : w'.frozen? p = w.frozen? p := Below.frozen h hp
theorem Ext.block {w w' : World} (h : Ext w w') {b : Nat} (hb : b < w.heap.size) : w'.heap[b]? = w.heap[b]? := Below.block h b hb
theorem Ext.grown {a w w' : World} {row : Option Nat} (h : Ext a w) (hg : w.grownBy w' row) (hr : ∀ k, row = some k → a.heap.size ≤ k) : Ext a w' := Below.grown h hg h.size hr
theorem Ext.cell_some {w w' : World} (h : Ext w w') {p : Addr} {v : Value} (hc : w.cell? p = some v) : w'.cell? p = some v :=
  (h.cell (World.block_lt_of_cell? w p hc)).trans hc
theorem Ext.of_eq {w w' : World} (h : w = w') : Ext w w' := h ▸ Ext.refl w
theorem Ext.below {w w' : World} (h : Ext w w') : Below w.heap.size w w' := h

/-- The worlds that come of w by draws and new blocks alone: the class of a region whose calls lay blocks. -/
structure Later (w : World) where
  W : World
  ext : Ext w W
theorem wp_region_later {P : Program} {id : Nat} {Q : Exit → Act → World → Prop} {a : Act} {w : World} {l : List Oper} (hm : P.follows .mixedOrders = true) (hB : Region.lexB .any l.toArray = true)
    (h : wpQuiet P l.toArray (fun w' => ∃ p : Later w, w' = p.W) (fun a' => ∀ w', (∃ p : Later w, w' = p.W) → Q .normal a' w') l a) : (Code.region id l.toArray true).wp P Q a w :=
  wp_region_quiet (C := fun w' => ∃ p : Later w, w' = p.W) hm hB ⟨⟨w.drew, (Ext.refl w).drew⟩, rfl⟩ (by simpa using h)
theorem later_of {P : Program} {f : FuncId} {args : Array Value} {w : World} {p : Later w} {v : Value}
    (h : Calls P f args p.W fun e w' => e = .returned v ∧ Ext p.W w') : Calls P f args p.W fun e w'' => e = .returned v ∧ ∃ q : Later w, w'' = q.W :=
  h.mono fun _ w' ⟨he, hx⟩ => ⟨he, ⟨w', p.ext.trans hx⟩, rfl⟩
theorem later_of_same {P : Program} {f : FuncId} {args : Array Value} {w : World} {p : Later w} {v : Value}
    (h : Calls P f args p.W fun e w' => e = .returned v ∧ p.W = w') : Calls P f args p.W fun e w'' => e = .returned v ∧ ∃ q : Later w, w'' = q.W :=
  h.mono fun _ _ ⟨he, hx⟩ => ⟨he, p, hx.symm⟩
theorem later_cell {w : World} {a : Addr} {v : Value} (h : w.cell? a = some v) (p : Later w) : p.W.cell? a = some v := p.ext.cell_some h

/-- A slice value that reads as a list; each element takes 'sz' cells. -/
def Rd {α : Type} (w : World) (sz : Nat) (enc : α → List Value) (v : Value) (l : List α) : Prop :=
  l.length ≤ 9223372036854775807 ∧ ∃ A c, v = .slice A l.length c ∧
    (0 < l.length → ∃ b off, A = some ⟨b, off, none⟩ ∧ b < w.heap.size ∧ ∀ j (h : j < l.length) i u, (enc l[j])[i]? = some u → w.cell? ⟨b, off + j * sz + i, none⟩ = some u)
theorem Rd.ext {α : Type} {w w' : World} {sz : Nat} {enc : α → List Value} {v : Value} {l : List α} (h : Rd w sz enc v l) (hx : Ext w w') : Rd w' sz enc v l := by
  obtain ⟨hm, A, c, hv, hr⟩ := h
  refine ⟨hm, A, c, hv, fun h0 => ?_⟩
  obtain ⟨b, off, hA, hb, hc⟩ := hr h0
  exact ⟨b, off, hA, Nat.lt_of_lt_of_le hb hx.size, fun j hj i u hu => hx.cell_some (hc j hj i u hu)⟩
theorem Rd.nil {α : Type} (w : World) (sz : Nat) (enc : α → List Value) : Rd w sz enc (.slice none 0 0) [] :=
  ⟨by simp, none, 0, rfl, fun h => absurd h (by simp)⟩

def encI (x : Int) : List Value := [.int .i64 x]
/-- A slice of ints, one cell at a time. -/
theorem Rd.int {w : World} {v : Value} {l : List Int} (h : Rd w 1 encI v l) : l.length ≤ 9223372036854775807 ∧ ∃ A c, v = .slice A l.length c ∧
    (0 < l.length → ∃ b off, A = some ⟨b, off, none⟩ ∧ b < w.heap.size ∧ ∀ j, j < l.length → w.cell? ⟨b, off + j, none⟩ = some (.int .i64 (l.getD j 0))) := by
  obtain ⟨hm, A, c, hv, hr⟩ := h
  refine ⟨hm, A, c, hv, fun h0 => ?_⟩
  obtain ⟨b, off, hA, hb, hc⟩ := hr h0
  refine ⟨b, off, hA, hb, fun j hj => ?_⟩
  have := hc j hj 0 (.int .i64 l[j]) rfl
  simpa [hj] using this

theorem flat_get {α : Type} {sz : Nat} (enc : α → List Value) (he : ∀ x, (enc x).length = sz) : ∀ (l : List α) (j i : Nat) (h : j < l.length), i < sz → (l.flatMap enc)[j * sz + i]? = (enc l[j])[i]?
  | x :: l, 0, i, _, hi => by simp [List.getElem?_append, he x, hi]
  | x :: l, j + 1, i, h, hi => by
    have := flat_get enc he l j i (by simpa using h) hi
    rw [List.flatMap_cons, List.getElem?_append_right (by rw [he x, Nat.succ_mul]; omega), he x, show (j + 1) * sz + i - sz = j * sz + i from by rw [Nat.succ_mul]; omega, this]
    simp
theorem Rd.of_owns {α : Type} {w : World} {base sz : Nat} {e : TypeId} {enc : α → List Value} (he : ∀ x, (enc x).length = sz) {v : Value} {l : List α} (h : w.ownsRow base e sz v l.length (l.flatMap enc)) : Rd w sz enc v l := by
  rcases h.2 with ⟨rfl, h0⟩ | ⟨g, cap, cur, rfl, _, hg, h1, h2, h3, h4⟩
  · refine ⟨by omega, none, 0, by rw [h0], fun h => by omega⟩
  · refine ⟨by unfold maxLen at h2; omega, _, cap, rfl, fun _ => ⟨g, 0, rfl, (Array.getElem?_eq_some_iff.1 hg).1, fun j hj i u hu => ?_⟩⟩
    have hi : i < sz := by
      have := (List.getElem?_eq_some_iff.1 hu).1
      rwa [he] at this
    have hf := flat_get enc he l j i hj hi
    have hlt : j * sz + i < l.length * sz := by
      have : (j + 1) * sz ≤ l.length * sz := Nat.mul_le_mul_right _ hj
      rw [Nat.succ_mul] at this
      omega
    have hc : cur[j * sz + i]? = some u := by
      rw [← Array.getElem?_toList]
      have : (cur.toList.take (l.length * sz))[j * sz + i]? = some u := by rw [h4, hf, hu]
      rwa [List.getElem?_take_of_lt hlt] at this
    simp only [World.cell?, hg, Option.isSome_none, Bool.false_eq_true, if_false, Nat.zero_add]
    exact hc

theorem ret_int {k : IntKind} {a b : Int} (h : a = b) : Ending.returned (.int k a) = .returned (.int k b) := by rw [h]
theorem ret_bool {a b : Bool} (h : a = b) : Ending.returned (.bool a) = .returned (.bool b) := by rw [h]
end Go.Proofs.YtehmgeodpjmfaaaGreatDoor
