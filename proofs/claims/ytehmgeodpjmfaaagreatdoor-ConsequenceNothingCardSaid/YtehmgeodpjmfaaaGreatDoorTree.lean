/- state's search tree: how it lies; its heights, sizes; join. -/
import Derived.Test.YtehmgeodpjmfaaaGreatDoorObjCmp
namespace Go.Proofs.YtehmgeodpjmfaaaGreatDoor
open Go.RowKit

inductive BT where
  | nil
  | node (l : BT) (n : NameS) (v : ByteArray) (r : BT)
def BT.h : BT → Nat
  | .nil => 0
  | .node l _ _ r => 1 + max l.h r.h
def BT.sz : BT → Nat
  | .nil => 0
  | .node l _ _ r => 1 + l.sz + r.sz
def BT.by_ : BT → Nat
  | .nil => 0
  | .node l _ v r => v.size + l.by_ + r.by_
def BT.toL : BT → List (NameS × ByteArray)
  | .nil => []
  | .node l n v r => l.toL ++ (n, v) :: r.toL
theorem BT.h_le : ∀ t : BT, t.h ≤ t.sz
  | .nil => Nat.le_refl _
  | .node l _ _ r => by have := BT.h_le l; have := BT.h_le r; simp only [BT.h, BT.sz]; omega
theorem BT.sz_eq : ∀ t : BT, t.sz = t.toL.length
  | .nil => rfl
  | .node l _ _ r => by have := BT.sz_eq l; have := BT.sz_eq r; simp only [BT.sz, BT.toL, List.length_append, List.length_cons]; omega
def byL (l : List (NameS × ByteArray)) : Nat := (l.map (·.2.size)).sum
theorem BT.by_eq : ∀ t : BT, t.by_ = byL t.toL
  | .nil => rfl
  | .node l _ _ r => by have := BT.by_eq l; have := BT.by_eq r; simp only [BT.by_, BT.toL, byL, List.map_append, List.map_cons, List.sum_append, List.sum_cons] at *; omega

def nodeCells (n : NameS) (v : ByteArray) (pl pr : Option Addr) (h s b : Nat) : Array Value :=
  #[.int .i64 n.kind, .string n.owner, .int .i64 n.number, .int .i64 n.index, .string n.text, .string v, .pointer pl, .pointer pr, .int .i64 h, .int .i64 s, .int .i64 b]
def IsT (w : World) : Option Addr → BT → Prop
  | p, .nil => p = none
  | p, .node l n v r => ∃ b pl pr, p = some ⟨b, 0, none⟩ ∧ w.heap[b]? = some (Obj.cells (nodeCells n v pl pr (BT.node l n v r).h (BT.node l n v r).sz (BT.node l n v r).by_) 151 (0, 0)) ∧ IsT w pl l ∧ IsT w pr r
theorem IsT.ext {w w' : World} (hx : Ext w w') : ∀ {t : BT} {p : Option Addr}, IsT w p t → IsT w' p t
  | .nil, _, h => h
  | .node _ _ _ _, _, ⟨b, pl, pr, hp, hb, hl, hr⟩ => ⟨b, pl, pr, hp, (hx.block (Array.getElem?_eq_some_iff.1 hb).1).trans hb, IsT.ext hx hl, IsT.ext hx hr⟩
/-- The fields of a node, as the walk reads them. -/
theorem node_cells {w : World} {b : Nat} {n : NameS} {v : ByteArray} {pl pr : Option Addr} {h s y : Nat} (hb : w.heap[b]? = some (Obj.cells (nodeCells n v pl pr h s y) 151 (0, 0))) :
    w.cell? ⟨b, 0, none⟩ = some (.int .i64 n.kind) ∧ w.cell? ⟨b, 1, none⟩ = some (.string n.owner) ∧ w.cell? ⟨b, 2, none⟩ = some (.int .i64 n.number) ∧ w.cell? ⟨b, 3, none⟩ = some (.int .i64 n.index) ∧ w.cell? ⟨b, 4, none⟩ = some (.string n.text) ∧
    w.cell? ⟨b, 5, none⟩ = some (.string v) ∧ w.cell? ⟨b, 6, none⟩ = some (.pointer pl) ∧ w.cell? ⟨b, 7, none⟩ = some (.pointer pr) ∧ w.cell? ⟨b, 8, none⟩ = some (.int .i64 h) ∧ w.cell? ⟨b, 9, none⟩ = some (.int .i64 s) ∧ w.cell? ⟨b, 10, none⟩ = some (.int .i64 y) :=
  ⟨(cells_at hb).1 0 _ rfl, (cells_at hb).1 1 _ rfl, (cells_at hb).1 2 _ rfl, (cells_at hb).1 3 _ rfl, (cells_at hb).1 4 _ rfl, (cells_at hb).1 5 _ rfl, (cells_at hb).1 6 _ rfl, (cells_at hb).1 7 _ rfl, (cells_at hb).1 8 _ rfl, (cells_at hb).1 9 _ rfl, (cells_at hb).1 10 _ rfl⟩

theorem tall_any (t : BT) (p : Option Addr) (w : World) (h : IsT w p t) :
    Calls Tryz.prog 112 #[.pointer p] w fun e w' => e = .returned (.int .i64 t.h) ∧ w = w' := by
  cases t with
  | nil =>
    obtain rfl : p = none := h
    go_enter Tryz.func112, Tryz.ntmps112
    go_wp2
    go_ret
    exact ⟨rfl, rfl⟩
  | node l n v r =>
    obtain ⟨b, pl, pr, rfl, hb, _, _⟩ := h
    have c := (node_cells hb).2.2.2.2.2.2.2.2.1
    clear hb
    go_enter Tryz.func112, Tryz.ntmps112
    go_wp2
    go_ret
    exact ⟨rfl, rfl⟩
theorem many_any (t : BT) (p : Option Addr) (w : World) (h : IsT w p t) :
    Calls Tryz.prog 86 #[.pointer p] w fun e w' => e = .returned (.int .i64 t.sz) ∧ w = w' := by
  cases t with
  | nil =>
    obtain rfl : p = none := h
    go_enter Tryz.func86, Tryz.ntmps86
    go_wp2
    go_ret
    exact ⟨rfl, rfl⟩
  | node l n v r =>
    obtain ⟨b, pl, pr, rfl, hb, _, _⟩ := h
    have c := (node_cells hb).2.2.2.2.2.2.2.2.2.1
    clear hb
    go_enter Tryz.func86, Tryz.ntmps86
    go_wp2
    go_ret
    exact ⟨rfl, rfl⟩
theorem total_any (t : BT) (p : Option Addr) (w : World) (h : IsT w p t) :
    Calls Tryz.prog 113 #[.pointer p] w fun e w' => e = .returned (.int .i64 t.by_) ∧ w = w' := by
  cases t with
  | nil =>
    obtain rfl : p = none := h
    go_enter Tryz.func113, Tryz.ntmps113
    go_wp2
    go_ret
    exact ⟨rfl, rfl⟩
  | node l n v r =>
    obtain ⟨b, pl, pr, rfl, hb, _, _⟩ := h
    have c := (node_cells hb).2.2.2.2.2.2.2.2.2.2
    clear hb
    go_enter Tryz.func113, Tryz.ntmps113
    go_wp2
    go_ret
    exact ⟨rfl, rfl⟩

/-- What holds of trees that are joined: nothing wraps. -/
def Fits (l r : BT) (v : ByteArray) : Prop := l.sz + r.sz ≤ 1000000000 ∧ l.by_ + r.by_ + v.size ≤ 1000000000000000000

theorem node_eq (l r : BT) (n : NameS) (v : ByteArray) (pl pr : Option Addr) (hf : Fits l r v) :
    (#[.int .i64 n.kind, .string n.owner, .int .i64 n.number, .int .i64 n.index, .string n.text, .string v, .pointer pl, .pointer pr, .int .i64 (IntKind.i64.wrap (1 + max (l.h : Int) (r.h : Int))), .int .i64 (IntKind.i64.wrap (IntKind.i64.wrap (1 + (l.sz : Int)) + (r.sz : Int))), .int .i64 (IntKind.i64.wrap (IntKind.i64.wrap ((v.size : Int) + (l.by_ : Int)) + (r.by_ : Int)))] : Array Value) =
    nodeCells n v pl pr (BT.node l n v r).h (BT.node l n v r).sz (BT.node l n v r).by_ := by
  obtain ⟨f1, f2⟩ := hf
  have hh1 := l.h_le
  have hh2 := r.h_le
  rw [IntWalk.i64_in (1 + (l.sz : Int)) (by omega), IntWalk.i64_in ((v.size : Int) + (l.by_ : Int)) (by omega), IntWalk.i64_in (1 + max (l.h : Int) (r.h : Int)) (by omega), IntWalk.i64_in (1 + (l.sz : Int) + (r.sz : Int)) (by omega), IntWalk.i64_in ((v.size : Int) + (l.by_ : Int) + (r.by_ : Int)) (by omega)]
  unfold nodeCells
  simp only [BT.h, BT.sz, BT.by_]
  rw [show (1 + max (l.h : Int) (r.h : Int)) = ((1 + max l.h r.h : Nat) : Int) from by omega, show (1 + (l.sz : Int) + (r.sz : Int)) = ((1 + l.sz + r.sz : Nat) : Int) from by omega, show ((v.size : Int) + (l.by_ : Int) + (r.by_ : Int)) = ((v.size + l.by_ + r.by_ : Nat) : Int) from by omega]
theorem join_end {w W1 : World} {l r : BT} {n : NameS} {v : ByteArray} {pl pr : Option Addr} {e : Ending} (hB : Ext w W1) (hl : IsT W1 pl l) (hr : IsT W1 pr r) (hf : Fits l r v) (he : e = .returned (.pointer (some ⟨W1.heap.size, 0, none⟩))) :
    ∃ p, e = .returned (.pointer p) ∧ IsT (W1.alloc (Obj.cells #[.int .i64 n.kind, .string n.owner, .int .i64 n.number, .int .i64 n.index, .string n.text, .string v, .pointer pl, .pointer pr, .int .i64 (IntKind.i64.wrap (1 + max (l.h : Int) (r.h : Int))), .int .i64 (IntKind.i64.wrap (IntKind.i64.wrap (1 + (l.sz : Int)) + (r.sz : Int))), .int .i64 (IntKind.i64.wrap (IntKind.i64.wrap ((v.size : Int) + (l.by_ : Int)) + (r.by_ : Int)))] 151)).drew p (.node l n v r) ∧
      Ext w (W1.alloc (Obj.cells #[.int .i64 n.kind, .string n.owner, .int .i64 n.number, .int .i64 n.index, .string n.text, .string v, .pointer pl, .pointer pr, .int .i64 (IntKind.i64.wrap (1 + max (l.h : Int) (r.h : Int))), .int .i64 (IntKind.i64.wrap (IntKind.i64.wrap (1 + (l.sz : Int)) + (r.sz : Int))), .int .i64 (IntKind.i64.wrap (IntKind.i64.wrap ((v.size : Int) + (l.by_ : Int)) + (r.by_ : Int)))] 151)).drew := by
  rw [node_eq l r n v pl pr hf]
  have hx : Ext W1 (W1.alloc (Obj.cells (nodeCells n v pl pr (BT.node l n v r).h (BT.node l n v r).sz (BT.node l n v r).by_) 151)).drew := ((Ext.refl W1).alloc _).drew
  exact ⟨_, he, ⟨W1.heap.size, pl, pr, rfl, heap_new W1 _, hl.ext hx, hr.ext hx⟩, hB.trans hx⟩

set_option maxHeartbeats 4000000 in
set_option maxRecDepth 100000 in
theorem join_any (l r : BT) (n : NameS) (v : ByteArray) (pl pr : Option Addr) (w : World) (hl : IsT w pl l) (hr : IsT w pr r) (hf : Fits l r v) :
    Calls Tryz.prog 87 #[.pointer pl, nmV n, .string v, .pointer pr] w fun e w' => ∃ p, e = .returned (.pointer p) ∧ IsT w' p (.node l n v r) ∧ Ext w w' := by
  obtain ⟨k1, o1, n1, i1, t1⟩ := n
  obtain ⟨f1, f2⟩ := hf
  have hh1 := l.h_le
  have hh2 := r.h_le
  simp only [nmV]
  go_enter Tryz.func87, Tryz.ntmps87
  go_wp2
  obtain ⟨W1, hW1⟩ : ∃ W1, w.alloc (.cells #[.int .i64 k1, .string o1, .int .i64 n1, .int .i64 i1, .string t1] 78) = W1 := ⟨_, rfl⟩
  have hB : Ext w W1 := by rw [← hW1]; exact (Ext.refl w).alloc _
  have a0 : W1.cell? ⟨w.heap.size, 0, none⟩ = some (.int .i64 k1) := by rw [← hW1]; simp
  have a1 : W1.cell? ⟨w.heap.size, 1, none⟩ = some (.string o1) := by rw [← hW1]; simp
  have a2 : W1.cell? ⟨w.heap.size, 2, none⟩ = some (.int .i64 n1) := by rw [← hW1]; simp
  have a3 : W1.cell? ⟨w.heap.size, 3, none⟩ = some (.int .i64 i1) := by rw [← hW1]; simp
  have a4 : W1.cell? ⟨w.heap.size, 4, none⟩ = some (.string t1) := by rw [← hW1]; simp
  rw [hW1]
  have hD := (Ext.refl W1).drew
  have HL1 := Lib.hid (IsT.ext hB hl)
  have HR1 := Lib.hid (IsT.ext hB hr)
  have HL := Lib.hid (IsT.ext (hB.trans hD) hl)
  have HR := Lib.hid (IsT.ext (hB.trans hD) hr)
  clear hW1 hl hr
  go_region_held3 (fun W => W.cell? ⟨w.heap.size, 0, none⟩ = some (.int .i64 k1) ∧ W.cell? ⟨w.heap.size, 1, none⟩ = some (.string o1) ∧ W.cell? ⟨w.heap.size, 2, none⟩ = some (.int .i64 n1) ∧ W.cell? ⟨w.heap.size, 3, none⟩ = some (.int .i64 i1) ∧ W.cell? ⟨w.heap.size, 4, none⟩ = some (.string t1))
    (exact ⟨Ext.cell_some (w := W1) (by first | assumption | exact Ext.alloc (by assumption) _) a0, Ext.cell_some (w := W1) (by first | assumption | exact Ext.alloc (by assumption) _) a1, Ext.cell_some (w := W1) (by first | assumption | exact Ext.alloc (by assumption) _) a2, Ext.cell_some (w := W1) (by first | assumption | exact Ext.alloc (by assumption) _) a3, Ext.cell_some (w := W1) (by first | assumption | exact Ext.alloc (by assumption) _) a4⟩)
    (first | (go_at_call_of 112 (Value.pointer pl); refine (tall_any _ _ _ HL.out).mono ?_; rintro e w' ⟨rfl, rfl⟩) | (go_at_call_of 112 (Value.pointer pr); refine (tall_any _ _ _ HR.out).mono ?_; rintro e w' ⟨rfl, rfl⟩) | (go_at_call_of 86 (Value.pointer pl); refine (many_any _ _ _ HL.out).mono ?_; rintro e w' ⟨rfl, rfl⟩) | (go_at_call_of 86 (Value.pointer pr); refine (many_any _ _ _ HR.out).mono ?_; rintro e w' ⟨rfl, rfl⟩) | (go_at_call_of 113 (Value.pointer pl); refine (total_any _ _ _ HL.out).mono ?_; rintro e w' ⟨rfl, rfl⟩) | (go_at_call_of 113 (Value.pointer pr); refine (total_any _ _ _ HR.out).mono ?_; rintro e w' ⟨rfl, rfl⟩))
  all_goals go_wp2
  all_goals go_ret
  all_goals exact join_end (n := ⟨k1, o1, n1, i1, t1⟩) hB HL1.out HR1.out ⟨f1, f2⟩ rfl
end Go.Proofs.YtehmgeodpjmfaaaGreatDoor
