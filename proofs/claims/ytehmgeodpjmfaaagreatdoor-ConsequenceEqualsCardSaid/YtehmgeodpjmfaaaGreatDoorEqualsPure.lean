/- law 50: ConsequenceEquals, the plain part. -/
import Derived.Deep.DeepCutAuto
import Derived.Deep.CutBlock
import Derived.BigQuiet
import Derived.Test.YtehmgeodpjmfaaaGreatDoorKnown2
import Derived.Test.YtehmgeodpjmfaaaGreatDoorEqual
namespace Go.Proofs.YtehmgeodpjmfaaaGreatDoor
open Go.RowKit

def plus1 (n : Int) : Int := wrap64 (n + 1)
theorem plus1_ok (n : Int) : I64 (plus1 n) := by unfold plus1 wrap64 I64; omega
theorem plus1_ne (n : Int) : plus1 n ≠ n := by unfold plus1 wrap64; omega
theorem app_ne (s : ByteArray) : s ++ (⟨#[120]⟩ : ByteArray) ≠ s := fun h => by
  have := congrArg ByteArray.size h
  rw [ByteArray.size_append] at this
  have h1 : (⟨#[120]⟩ : ByteArray).size = 1 := rfl
  omega
def changeC (a : ConsS) : Nat → ConsS
  | 1 => { a with kind := plus1 a.kind }
  | 2 => { a with own := a.own ++ ⟨#[120]⟩ }
  | 3 => { a with num := plus1 a.num }
  | 4 => { a with place := plus1 a.place }
  | 5 => { a with old := { a.old with text := a.old.text ++ ⟨#[120]⟩ } }
  | 6 => { a with oldAt := plus1 a.oldAt }
  | 7 => { a with new := { a.new with chan := plus1 a.new.chan } }
  | 8 => { a with newAt := plus1 a.newAt }
  | _ => a
theorem changeC_eq (a : ConsS) (r : Nat) (h : r < 9) : changeC a r = a ↔ r = 0 := by
  obtain ⟨k1, o1, n1, p1, ⟨c1, t1, x1, u1⟩, a1, ⟨d1, g1, y1, v1⟩, b1⟩ := a
  rcases (show r = 0 ∨ r = 1 ∨ r = 2 ∨ r = 3 ∨ r = 4 ∨ r = 5 ∨ r = 6 ∨ r = 7 ∨ r = 8 by omega) with rfl | rfl | rfl | rfl | rfl | rfl | rfl | rfl | rfl <;>
    simp [changeC, plus1_ne, app_ne]
theorem changeC_ok (a : ConsS) (r : Nat) (h : ConsOk a) (h1 : a.own.size ≤ 140737488351232) (h2 : a.old.text.size ≤ 140737488351232) : ConsOk (changeC a r) := by
  obtain ⟨k1, o1, n1, p1, ⟨c1, t1, tx, u1⟩, a1, ⟨d1, g1, ty, v1⟩, b1⟩ := a
  obtain ⟨w1, l1, w2, w3, ⟨x1, x2, x3, x4⟩, w4, ⟨y1, y2, y3, y4⟩, w5⟩ := h
  have h3 : (⟨#[120]⟩ : ByteArray).size = 1 := rfl
  have e1 : SOk (o1 ++ (⟨#[120]⟩ : ByteArray)) := by unfold SOk; rw [ByteArray.size_append]; simp only at h1; omega
  have e2 : SOk (tx ++ (⟨#[120]⟩ : ByteArray)) := by unfold SOk; rw [ByteArray.size_append]; simp only at h2; omega
  unfold changeC
  split
  · exact ⟨plus1_ok _, l1, w2, w3, ⟨x1, x2, x3, x4⟩, w4, ⟨y1, y2, y3, y4⟩, w5⟩
  · exact ⟨w1, e1, w2, w3, ⟨x1, x2, x3, x4⟩, w4, ⟨y1, y2, y3, y4⟩, w5⟩
  · exact ⟨w1, l1, plus1_ok _, w3, ⟨x1, x2, x3, x4⟩, w4, ⟨y1, y2, y3, y4⟩, w5⟩
  · exact ⟨w1, l1, w2, plus1_ok _, ⟨x1, x2, x3, x4⟩, w4, ⟨y1, y2, y3, y4⟩, w5⟩
  · exact ⟨w1, l1, w2, w3, ⟨x1, x2, e2, x4⟩, w4, ⟨y1, y2, y3, y4⟩, w5⟩
  · exact ⟨w1, l1, w2, w3, ⟨x1, x2, x3, x4⟩, plus1_ok _, ⟨y1, y2, y3, y4⟩, w5⟩
  · exact ⟨w1, l1, w2, w3, ⟨x1, x2, x3, x4⟩, w4, ⟨plus1_ok _, y2, y3, y4⟩, w5⟩
  · exact ⟨w1, l1, w2, w3, ⟨x1, x2, x3, x4⟩, w4, ⟨y1, y2, y3, y4⟩, plus1_ok _⟩
  · exact ⟨w1, l1, w2, w3, ⟨x1, x2, x3, x4⟩, w4, ⟨y1, y2, y3, y4⟩, w5⟩
theorem app_size (s : ByteArray) (h : s.size ≤ 140737488351232) : (s ++ (⟨#[120]⟩ : ByteArray)).size ≤ 140737488351233 := by
  rw [ByteArray.size_append, show (⟨#[120]⟩ : ByteArray).size = 1 from rfl]; omega

theorem eq_base (w : World) (A B C : Obj) : (((w.alloc A).alloc B).alloc C).heap[w.heap.size]? = some A ∧ (((w.alloc A).alloc B).alloc C).heap[w.heap.size + 1]? = some B ∧ (((w.alloc A).alloc B).alloc C).heap[w.heap.size + 2]? = some C ∧ Ext w (((w.alloc A).alloc B).alloc C) := by
  have s1 : (w.alloc A).heap.size = w.heap.size + 1 := by simp
  have s2 : ((w.alloc A).alloc B).heap.size = w.heap.size + 2 := by simp
  have hA := heap_new w A
  have hB := heap_new (w.alloc A) B
  have hC := heap_new ((w.alloc A).alloc B) C
  rw [s1] at hB
  rw [s2] at hC
  have x1 : Ext (w.alloc A) (((w.alloc A).alloc B).alloc C) := ((Ext.refl _).alloc B).alloc C
  have x2 : Ext ((w.alloc A).alloc B) (((w.alloc A).alloc B).alloc C) := (Ext.refl _).alloc C
  exact ⟨(x1.block (by omega)).trans hA, (x2.block (by omega)).trans hB, hC, (((Ext.refl w).alloc A).alloc B).alloc C⟩
end Go.Proofs.YtehmgeodpjmfaaaGreatDoor
