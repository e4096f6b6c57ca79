/- state's search tree: balance. -/
import Derived.BigRegion
import Derived.Test.YtehmgeodpjmfaaaGreatDoorTree
namespace Go.Proofs.YtehmgeodpjmfaaaGreatDoor
open Go.RowKit

def BT.bal (l : BT) (n : NameS) (v : ByteArray) (r : BT) : BT :=
  if r.h + 1 < l.h then
    match l with
    | .nil => .node l n v r
    | .node ll ln lv lr =>
      if lr.h ≤ ll.h then .node ll ln lv (.node lr n v r)
      else match lr with
        | .nil => .node l n v r
        | .node ml mn mv mr => .node (.node ll ln lv ml) mn mv (.node mr n v r)
  else if l.h + 1 < r.h then
    match r with
    | .nil => .node l n v r
    | .node rl rn rv rr =>
      if rl.h ≤ rr.h then .node (.node l n v rl) rn rv rr
      else match rl with
        | .nil => .node l n v r
        | .node ml mn mv mr => .node (.node l n v ml) mn mv (.node mr rn rv rr)
  else .node l n v r
theorem BT.bal_toL (l : BT) (n : NameS) (v : ByteArray) (r : BT) : (BT.bal l n v r).toL = l.toL ++ (n, v) :: r.toL := by
  unfold BT.bal
  split
  · split
    · simp [BT.toL]
    · split
      · simp [BT.toL]
      · split <;> simp [BT.toL]
  · split
    · split
      · simp [BT.toL]
      · split
        · simp [BT.toL]
        · split <;> simp [BT.toL]
    · simp [BT.toL]

set_option maxHeartbeats 8000000 in
set_option maxRecDepth 100000 in
theorem bal_none (l r : BT) (n : NameS) (v : ByteArray) (pl pr : Option Addr) (w : World) (hl : IsT w pl l) (hr : IsT w pr r) (hf : Fits l r v) (h1 : (l.h : Int) ≤ (r.h : Int) + 1) (h2 : (r.h : Int) ≤ (l.h : Int) + 1) :
    Calls Tryz.prog 88 #[.pointer pl, nmV n, .string v, .pointer pr] w fun e w' => ∃ p, e = .returned (.pointer p) ∧ IsT w' p (.node l n v r) ∧ Ext w w' := by
  obtain ⟨f1, f2⟩ := hf
  have hh1 := l.h_le
  have hh2 := r.h_le
  go_enter Tryz.func88, Tryz.ntmps88
  simp only [nmV]
  go_wp2_with fail
  obtain ⟨W1, hW1⟩ : ∃ W1, w.alloc (.cells #[.int .i64 n.kind, .string n.owner, .int .i64 n.number, .int .i64 n.index, .string n.text] 78) = W1 := ⟨_, rfl⟩
  have hB : Ext w W1 := by rw [← hW1]; exact (Ext.refl w).alloc _
  have a0 : W1.cell? ⟨w.heap.size, 0, none⟩ = some (.int .i64 n.kind) := by rw [← hW1]; simp
  have a1 : W1.cell? ⟨w.heap.size, 1, none⟩ = some (.string n.owner) := by rw [← hW1]; simp
  have a2 : W1.cell? ⟨w.heap.size, 2, none⟩ = some (.int .i64 n.number) := by rw [← hW1]; simp
  have a3 : W1.cell? ⟨w.heap.size, 3, none⟩ = some (.int .i64 n.index) := by rw [← hW1]; simp
  have a4 : W1.cell? ⟨w.heap.size, 4, none⟩ = some (.string n.text) := by rw [← hW1]; simp
  rw [hW1]
  have HL := Lib.hid (IsT.ext hB hl)
  have HR := Lib.hid (IsT.ext hB hr)
  have hD := Ext.refl W1
  have HF : Hid (Fits l r v) := ⟨f1, f2⟩
  clear hW1 hl hr
  refine (tall_any _ _ _ HL.out).mono ?_
  rintro e w' ⟨rfl, rfl⟩
  go_wp2_with fail
  refine (tall_any _ _ _ HR.out).mono ?_
  rintro e w' ⟨rfl, rfl⟩
  go_wp2_with fail
  refine (tall_any _ _ _ HR.out).mono ?_
  rintro e w' ⟨rfl, rfl⟩
  go_wp2_with fail
  refine (tall_any _ _ _ HL.out).mono ?_
  rintro e w' ⟨rfl, rfl⟩
  go_wp2_with fail
  refine (join_any l r n v _ _ _ HL.out HR.out HF.out).mono ?_
  rintro e w2 ⟨p2, rfl, ht2, hx2⟩
  go_wp2
  go_ret
  exact ⟨p2, rfl, ht2, hB.trans hx2⟩

set_option maxHeartbeats 8000000 in
set_option maxRecDepth 100000 in
theorem bal_l (ll lr r : BT) (ln n : NameS) (lv v : ByteArray) (pl pr : Option Addr) (w : World) (hl : IsT w pl (.node ll ln lv lr)) (hr : IsT w pr r) (hf : Fits (.node ll ln lv lr) r v) (h1 : (r.h : Int) + 1 < (BT.h (.node ll ln lv lr) : Nat)) (h2 : (lr.h : Int) ≤ (ll.h : Int)) :
    Calls Tryz.prog 88 #[.pointer pl, nmV n, .string v, .pointer pr] w fun e w' => ∃ p, e = .returned (.pointer p) ∧ IsT w' p (.node ll ln lv (.node lr n v r)) ∧ Ext w w' := by
  obtain ⟨f1, f2⟩ := hf
  have hh1 := BT.h_le (.node ll ln lv lr)
  have hh2 := BT.h_le r
  simp only [BT.sz, BT.by_] at f1 f2 hh1 hh2
  go_enter Tryz.func88, Tryz.ntmps88
  simp only [nmV]
  go_wp2_with fail
  obtain ⟨W1, hW1⟩ : ∃ W1, w.alloc (.cells #[.int .i64 n.kind, .string n.owner, .int .i64 n.number, .int .i64 n.index, .string n.text] 78) = W1 := ⟨_, rfl⟩
  have hB : Ext w W1 := by rw [← hW1]; exact (Ext.refl w).alloc _
  have a0 : W1.cell? ⟨w.heap.size, 0, none⟩ = some (.int .i64 n.kind) := by rw [← hW1]; simp
  have a1 : W1.cell? ⟨w.heap.size, 1, none⟩ = some (.string n.owner) := by rw [← hW1]; simp
  have a2 : W1.cell? ⟨w.heap.size, 2, none⟩ = some (.int .i64 n.number) := by rw [← hW1]; simp
  have a3 : W1.cell? ⟨w.heap.size, 3, none⟩ = some (.int .i64 n.index) := by rw [← hW1]; simp
  have a4 : W1.cell? ⟨w.heap.size, 4, none⟩ = some (.string n.text) := by rw [← hW1]; simp
  rw [hW1]
  have HS := Lib.hid (IsT.ext hB hr)
  have HB := Lib.hid (IsT.ext hB hl)
  obtain ⟨bb, pbl, pbr, hpb, hbb, hbl, hbr⟩ := IsT.ext hB hl
  subst hpb
  obtain ⟨c0, c1, c2, c3, c4, c5, c6, c7, _⟩ := node_cells hbb
  have HBL := Lib.hid hbl
  have HBR := Lib.hid hbr
  have hD := Ext.refl W1
  clear hW1 hl hr hbb hbl hbr
  refine (tall_any _ _ _ HB.out).mono ?_
  rintro e w' ⟨rfl, rfl⟩
  go_wp2_with fail
  refine (tall_any _ _ _ HS.out).mono ?_
  rintro e w' ⟨rfl, rfl⟩
  go_wp2_with fail
  go_region_held3 (fun W => W.cell? ⟨w.heap.size, 0, none⟩ = some (.int .i64 n.kind) ∧ W.cell? ⟨w.heap.size, 1, none⟩ = some (.string n.owner) ∧ W.cell? ⟨w.heap.size, 2, none⟩ = some (.int .i64 n.number) ∧ W.cell? ⟨w.heap.size, 3, none⟩ = some (.int .i64 n.index) ∧ W.cell? ⟨w.heap.size, 4, none⟩ = some (.string n.text) ∧ W.cell? ⟨bb, 0, none⟩ = some (.int .i64 ln.kind) ∧ W.cell? ⟨bb, 1, none⟩ = some (.string ln.owner) ∧ W.cell? ⟨bb, 2, none⟩ = some (.int .i64 ln.number) ∧ W.cell? ⟨bb, 3, none⟩ = some (.int .i64 ln.index) ∧ W.cell? ⟨bb, 4, none⟩ = some (.string ln.text) ∧ W.cell? ⟨bb, 5, none⟩ = some (.string lv) ∧ W.cell? ⟨bb, 6, none⟩ = some (.pointer pbl) ∧ W.cell? ⟨bb, 7, none⟩ = some (.pointer pbr))
    (exact ⟨Ext.cell_some (w := W1) (by first | assumption | exact Ext.alloc (by assumption) _ | exact Ext.drew (by assumption) | exact Ext.drew (Ext.drew (by assumption))) a0, Ext.cell_some (w := W1) (by first | assumption | exact Ext.alloc (by assumption) _ | exact Ext.drew (by assumption) | exact Ext.drew (Ext.drew (by assumption))) a1, Ext.cell_some (w := W1) (by first | assumption | exact Ext.alloc (by assumption) _ | exact Ext.drew (by assumption) | exact Ext.drew (Ext.drew (by assumption))) a2, Ext.cell_some (w := W1) (by first | assumption | exact Ext.alloc (by assumption) _ | exact Ext.drew (by assumption) | exact Ext.drew (Ext.drew (by assumption))) a3, Ext.cell_some (w := W1) (by first | assumption | exact Ext.alloc (by assumption) _ | exact Ext.drew (by assumption) | exact Ext.drew (Ext.drew (by assumption))) a4, Ext.cell_some (w := W1) (by first | assumption | exact Ext.alloc (by assumption) _ | exact Ext.drew (by assumption) | exact Ext.drew (Ext.drew (by assumption))) c0, Ext.cell_some (w := W1) (by first | assumption | exact Ext.alloc (by assumption) _ | exact Ext.drew (by assumption) | exact Ext.drew (Ext.drew (by assumption))) c1, Ext.cell_some (w := W1) (by first | assumption | exact Ext.alloc (by assumption) _ | exact Ext.drew (by assumption) | exact Ext.drew (Ext.drew (by assumption))) c2, Ext.cell_some (w := W1) (by first | assumption | exact Ext.alloc (by assumption) _ | exact Ext.drew (by assumption) | exact Ext.drew (Ext.drew (by assumption))) c3, Ext.cell_some (w := W1) (by first | assumption | exact Ext.alloc (by assumption) _ | exact Ext.drew (by assumption) | exact Ext.drew (Ext.drew (by assumption))) c4, Ext.cell_some (w := W1) (by first | assumption | exact Ext.alloc (by assumption) _ | exact Ext.drew (by assumption) | exact Ext.drew (Ext.drew (by assumption))) c5, Ext.cell_some (w := W1) (by first | assumption | exact Ext.alloc (by assumption) _ | exact Ext.drew (by assumption) | exact Ext.drew (Ext.drew (by assumption))) c6, Ext.cell_some (w := W1) (by first | assumption | exact Ext.alloc (by assumption) _ | exact Ext.drew (by assumption) | exact Ext.drew (Ext.drew (by assumption))) c7⟩)
    (first | (go_at_call_of 112 (Value.pointer pbl); refine (tall_any _ _ _ (IsT.ext (w := W1) (by first | assumption | exact Ext.alloc (by assumption) _ | exact Ext.drew (by assumption) | exact Ext.drew (Ext.drew (by assumption))) HBL.out)).mono ?_; rintro e w' ⟨rfl, rfl⟩) | (go_at_call_of 112 (Value.pointer pbr); refine (tall_any _ _ _ (IsT.ext (w := W1) (by first | assumption | exact Ext.alloc (by assumption) _ | exact Ext.drew (by assumption) | exact Ext.drew (Ext.drew (by assumption))) HBR.out)).mono ?_; rintro e w' ⟨rfl, rfl⟩))
  all_goals go_wp2_with fail
  all_goals
    go_region_held3 (fun W => W.cell? ⟨w.heap.size, 0, none⟩ = some (.int .i64 n.kind) ∧ W.cell? ⟨w.heap.size, 1, none⟩ = some (.string n.owner) ∧ W.cell? ⟨w.heap.size, 2, none⟩ = some (.int .i64 n.number) ∧ W.cell? ⟨w.heap.size, 3, none⟩ = some (.int .i64 n.index) ∧ W.cell? ⟨w.heap.size, 4, none⟩ = some (.string n.text) ∧ W.cell? ⟨bb, 0, none⟩ = some (.int .i64 ln.kind) ∧ W.cell? ⟨bb, 1, none⟩ = some (.string ln.owner) ∧ W.cell? ⟨bb, 2, none⟩ = some (.int .i64 ln.number) ∧ W.cell? ⟨bb, 3, none⟩ = some (.int .i64 ln.index) ∧ W.cell? ⟨bb, 4, none⟩ = some (.string ln.text) ∧ W.cell? ⟨bb, 5, none⟩ = some (.string lv) ∧ W.cell? ⟨bb, 6, none⟩ = some (.pointer pbl) ∧ W.cell? ⟨bb, 7, none⟩ = some (.pointer pbr))
      (exact ⟨Ext.cell_some (w := W1) (by first | assumption | exact Ext.alloc (by assumption) _ | exact Ext.drew (by assumption) | exact Ext.drew (Ext.drew (by assumption))) a0, Ext.cell_some (w := W1) (by first | assumption | exact Ext.alloc (by assumption) _ | exact Ext.drew (by assumption) | exact Ext.drew (Ext.drew (by assumption))) a1, Ext.cell_some (w := W1) (by first | assumption | exact Ext.alloc (by assumption) _ | exact Ext.drew (by assumption) | exact Ext.drew (Ext.drew (by assumption))) a2, Ext.cell_some (w := W1) (by first | assumption | exact Ext.alloc (by assumption) _ | exact Ext.drew (by assumption) | exact Ext.drew (Ext.drew (by assumption))) a3, Ext.cell_some (w := W1) (by first | assumption | exact Ext.alloc (by assumption) _ | exact Ext.drew (by assumption) | exact Ext.drew (Ext.drew (by assumption))) a4, Ext.cell_some (w := W1) (by first | assumption | exact Ext.alloc (by assumption) _ | exact Ext.drew (by assumption) | exact Ext.drew (Ext.drew (by assumption))) c0, Ext.cell_some (w := W1) (by first | assumption | exact Ext.alloc (by assumption) _ | exact Ext.drew (by assumption) | exact Ext.drew (Ext.drew (by assumption))) c1, Ext.cell_some (w := W1) (by first | assumption | exact Ext.alloc (by assumption) _ | exact Ext.drew (by assumption) | exact Ext.drew (Ext.drew (by assumption))) c2, Ext.cell_some (w := W1) (by first | assumption | exact Ext.alloc (by assumption) _ | exact Ext.drew (by assumption) | exact Ext.drew (Ext.drew (by assumption))) c3, Ext.cell_some (w := W1) (by first | assumption | exact Ext.alloc (by assumption) _ | exact Ext.drew (by assumption) | exact Ext.drew (Ext.drew (by assumption))) c4, Ext.cell_some (w := W1) (by first | assumption | exact Ext.alloc (by assumption) _ | exact Ext.drew (by assumption) | exact Ext.drew (Ext.drew (by assumption))) c5, Ext.cell_some (w := W1) (by first | assumption | exact Ext.alloc (by assumption) _ | exact Ext.drew (by assumption) | exact Ext.drew (Ext.drew (by assumption))) c6, Ext.cell_some (w := W1) (by first | assumption | exact Ext.alloc (by assumption) _ | exact Ext.drew (by assumption) | exact Ext.drew (Ext.drew (by assumption))) c7⟩)
      (first | (go_at_call_of 87 (Value.pointer pbr); refine (join_any (lr) (r) n v _ _ _ (IsT.ext (w := W1) (by first | assumption | exact Ext.alloc (by assumption) _ | exact Ext.drew (by assumption) | exact Ext.drew (Ext.drew (by assumption))) HBR.out) (IsT.ext (w := W1) (by first | assumption | exact Ext.alloc (by assumption) _ | exact Ext.drew (by assumption) | exact Ext.drew (Ext.drew (by assumption))) HS.out) (by unfold Fits; simp only [BT.sz, BT.by_] at *; omega)).mono ?_; rintro e w2 ⟨p2, rfl, ht2, hx2⟩; have hD2 := Ext.trans (a := W1) (by first | assumption | exact Ext.alloc (by assumption) _ | exact Ext.drew (by assumption) | exact Ext.drew (Ext.drew (by assumption))) hx2) | (go_at_call_of 87 (Value.pointer pbl); refine (join_any (ll) (.node lr n v r) ln lv _ _ _ (IsT.ext (w := W1) (by first | assumption | exact Ext.alloc (by assumption) _ | exact Ext.drew (by assumption) | exact Ext.drew (Ext.drew (by assumption))) HBL.out) (by assumption) (by unfold Fits; simp only [BT.sz, BT.by_] at *; omega)).mono ?_; rintro e w3 ⟨p3, rfl, ht3, hx3⟩; have hD3 := Ext.trans (a := W1) (by first | assumption | exact Ext.alloc (by assumption) _ | exact Ext.drew (by assumption) | exact Ext.drew (Ext.drew (by assumption))) hx3))
  all_goals go_wp2
  all_goals go_ret
  all_goals exact ⟨_, rfl, by assumption, hB.trans (by assumption)⟩

set_option maxHeartbeats 8000000 in
set_option maxRecDepth 100000 in
theorem bal_ll (ll ml mr r : BT) (ln mn n : NameS) (lv mv v : ByteArray) (pl pr : Option Addr) (w : World) (hl : IsT w pl (.node ll ln lv (.node ml mn mv mr))) (hr : IsT w pr r) (hf : Fits (.node ll ln lv (.node ml mn mv mr)) r v) (h1 : (r.h : Int) + 1 < (BT.h (.node ll ln lv (.node ml mn mv mr)) : Nat)) (h2 : (ll.h : Int) < (BT.h (.node ml mn mv mr) : Nat)) :
    Calls Tryz.prog 88 #[.pointer pl, nmV n, .string v, .pointer pr] w fun e w' => ∃ p, e = .returned (.pointer p) ∧ IsT w' p (.node (.node ll ln lv ml) mn mv (.node mr n v r)) ∧ Ext w w' := by
  obtain ⟨f1, f2⟩ := hf
  have hh1 := BT.h_le (.node ll ln lv (.node ml mn mv mr))
  have hh2 := BT.h_le r
  simp only [BT.sz, BT.by_] at f1 f2 hh1 hh2
  go_enter Tryz.func88, Tryz.ntmps88
  simp only [nmV]
  go_wp2_with fail
  obtain ⟨W1, hW1⟩ : ∃ W1, w.alloc (.cells #[.int .i64 n.kind, .string n.owner, .int .i64 n.number, .int .i64 n.index, .string n.text] 78) = W1 := ⟨_, rfl⟩
  have hB : Ext w W1 := by rw [← hW1]; exact (Ext.refl w).alloc _
  have a0 : W1.cell? ⟨w.heap.size, 0, none⟩ = some (.int .i64 n.kind) := by rw [← hW1]; simp
  have a1 : W1.cell? ⟨w.heap.size, 1, none⟩ = some (.string n.owner) := by rw [← hW1]; simp
  have a2 : W1.cell? ⟨w.heap.size, 2, none⟩ = some (.int .i64 n.number) := by rw [← hW1]; simp
  have a3 : W1.cell? ⟨w.heap.size, 3, none⟩ = some (.int .i64 n.index) := by rw [← hW1]; simp
  have a4 : W1.cell? ⟨w.heap.size, 4, none⟩ = some (.string n.text) := by rw [← hW1]; simp
  rw [hW1]
  have HS := Lib.hid (IsT.ext hB hr)
  have HB := Lib.hid (IsT.ext hB hl)
  obtain ⟨bb, pbl, pbr, hpb, hbb, hbl, hbr⟩ := IsT.ext hB hl
  subst hpb
  obtain ⟨c0, c1, c2, c3, c4, c5, c6, c7, _⟩ := node_cells hbb
  have HM := Lib.hid hbr
  obtain ⟨bm, pml, pmr, hpm, hbm, hml, hmr⟩ := hbr
  subst hpm
  obtain ⟨d0, d1, d2, d3, d4, d5, d6, d7, _⟩ := node_cells hbm
  have HML := Lib.hid hml
  have HMR := Lib.hid hmr
  have HO := Lib.hid hbl
  have hD := Ext.refl W1
  clear hW1 hl hr hbb hbl hbm hml hmr
  refine (tall_any _ _ _ HB.out).mono ?_
  rintro e w' ⟨rfl, rfl⟩
  go_wp2_with fail
  refine (tall_any _ _ _ HS.out).mono ?_
  rintro e w' ⟨rfl, rfl⟩
  go_wp2_with fail
  go_region_held3 (fun W => W.cell? ⟨w.heap.size, 0, none⟩ = some (.int .i64 n.kind) ∧ W.cell? ⟨w.heap.size, 1, none⟩ = some (.string n.owner) ∧ W.cell? ⟨w.heap.size, 2, none⟩ = some (.int .i64 n.number) ∧ W.cell? ⟨w.heap.size, 3, none⟩ = some (.int .i64 n.index) ∧ W.cell? ⟨w.heap.size, 4, none⟩ = some (.string n.text) ∧ W.cell? ⟨bb, 0, none⟩ = some (.int .i64 ln.kind) ∧ W.cell? ⟨bb, 1, none⟩ = some (.string ln.owner) ∧ W.cell? ⟨bb, 2, none⟩ = some (.int .i64 ln.number) ∧ W.cell? ⟨bb, 3, none⟩ = some (.int .i64 ln.index) ∧ W.cell? ⟨bb, 4, none⟩ = some (.string ln.text) ∧ W.cell? ⟨bb, 5, none⟩ = some (.string lv) ∧ W.cell? ⟨bb, 6, none⟩ = some (.pointer pbl) ∧ W.cell? ⟨bb, 7, none⟩ = some (.pointer (some ⟨bm, 0, none⟩)))
    (exact ⟨Ext.cell_some (w := W1) (by first | assumption | exact Ext.alloc (by assumption) _ | exact Ext.drew (by assumption) | exact Ext.drew (Ext.drew (by assumption))) a0, Ext.cell_some (w := W1) (by first | assumption | exact Ext.alloc (by assumption) _ | exact Ext.drew (by assumption) | exact Ext.drew (Ext.drew (by assumption))) a1, Ext.cell_some (w := W1) (by first | assumption | exact Ext.alloc (by assumption) _ | exact Ext.drew (by assumption) | exact Ext.drew (Ext.drew (by assumption))) a2, Ext.cell_some (w := W1) (by first | assumption | exact Ext.alloc (by assumption) _ | exact Ext.drew (by assumption) | exact Ext.drew (Ext.drew (by assumption))) a3, Ext.cell_some (w := W1) (by first | assumption | exact Ext.alloc (by assumption) _ | exact Ext.drew (by assumption) | exact Ext.drew (Ext.drew (by assumption))) a4, Ext.cell_some (w := W1) (by first | assumption | exact Ext.alloc (by assumption) _ | exact Ext.drew (by assumption) | exact Ext.drew (Ext.drew (by assumption))) c0, Ext.cell_some (w := W1) (by first | assumption | exact Ext.alloc (by assumption) _ | exact Ext.drew (by assumption) | exact Ext.drew (Ext.drew (by assumption))) c1, Ext.cell_some (w := W1) (by first | assumption | exact Ext.alloc (by assumption) _ | exact Ext.drew (by assumption) | exact Ext.drew (Ext.drew (by assumption))) c2, Ext.cell_some (w := W1) (by first | assumption | exact Ext.alloc (by assumption) _ | exact Ext.drew (by assumption) | exact Ext.drew (Ext.drew (by assumption))) c3, Ext.cell_some (w := W1) (by first | assumption | exact Ext.alloc (by assumption) _ | exact Ext.drew (by assumption) | exact Ext.drew (Ext.drew (by assumption))) c4, Ext.cell_some (w := W1) (by first | assumption | exact Ext.alloc (by assumption) _ | exact Ext.drew (by assumption) | exact Ext.drew (Ext.drew (by assumption))) c5, Ext.cell_some (w := W1) (by first | assumption | exact Ext.alloc (by assumption) _ | exact Ext.drew (by assumption) | exact Ext.drew (Ext.drew (by assumption))) c6, Ext.cell_some (w := W1) (by first | assumption | exact Ext.alloc (by assumption) _ | exact Ext.drew (by assumption) | exact Ext.drew (Ext.drew (by assumption))) c7⟩)
    (first | (go_at_call_of 112 (Value.pointer pbl); refine (tall_any _ _ _ (IsT.ext (w := W1) (by first | assumption | exact Ext.alloc (by assumption) _ | exact Ext.drew (by assumption) | exact Ext.drew (Ext.drew (by assumption))) HO.out)).mono ?_; rintro e w' ⟨rfl, rfl⟩) | (go_at_call_of 112 (Value.pointer (some ⟨bm, 0, none⟩)); refine (tall_any _ _ _ (IsT.ext (w := W1) (by first | assumption | exact Ext.alloc (by assumption) _ | exact Ext.drew (by assumption) | exact Ext.drew (Ext.drew (by assumption))) HM.out)).mono ?_; rintro e w' ⟨rfl, rfl⟩))
  all_goals go_wp2_with fail
  all_goals
    go_region_held3 (fun W => W.cell? ⟨w.heap.size, 0, none⟩ = some (.int .i64 n.kind) ∧ W.cell? ⟨w.heap.size, 1, none⟩ = some (.string n.owner) ∧ W.cell? ⟨w.heap.size, 2, none⟩ = some (.int .i64 n.number) ∧ W.cell? ⟨w.heap.size, 3, none⟩ = some (.int .i64 n.index) ∧ W.cell? ⟨w.heap.size, 4, none⟩ = some (.string n.text) ∧ W.cell? ⟨bb, 0, none⟩ = some (.int .i64 ln.kind) ∧ W.cell? ⟨bb, 1, none⟩ = some (.string ln.owner) ∧ W.cell? ⟨bb, 2, none⟩ = some (.int .i64 ln.number) ∧ W.cell? ⟨bb, 3, none⟩ = some (.int .i64 ln.index) ∧ W.cell? ⟨bb, 4, none⟩ = some (.string ln.text) ∧ W.cell? ⟨bb, 5, none⟩ = some (.string lv) ∧ W.cell? ⟨bb, 6, none⟩ = some (.pointer pbl) ∧ W.cell? ⟨bb, 7, none⟩ = some (.pointer (some ⟨bm, 0, none⟩)) ∧ W.cell? ⟨bm, 0, none⟩ = some (.int .i64 mn.kind) ∧ W.cell? ⟨bm, 1, none⟩ = some (.string mn.owner) ∧ W.cell? ⟨bm, 2, none⟩ = some (.int .i64 mn.number) ∧ W.cell? ⟨bm, 3, none⟩ = some (.int .i64 mn.index) ∧ W.cell? ⟨bm, 4, none⟩ = some (.string mn.text) ∧ W.cell? ⟨bm, 5, none⟩ = some (.string mv) ∧ W.cell? ⟨bm, 6, none⟩ = some (.pointer pml) ∧ W.cell? ⟨bm, 7, none⟩ = some (.pointer pmr))
      (exact ⟨Ext.cell_some (w := W1) (by first | assumption | exact Ext.alloc (by assumption) _ | exact Ext.drew (by assumption) | exact Ext.drew (Ext.drew (by assumption))) a0, Ext.cell_some (w := W1) (by first | assumption | exact Ext.alloc (by assumption) _ | exact Ext.drew (by assumption) | exact Ext.drew (Ext.drew (by assumption))) a1, Ext.cell_some (w := W1) (by first | assumption | exact Ext.alloc (by assumption) _ | exact Ext.drew (by assumption) | exact Ext.drew (Ext.drew (by assumption))) a2, Ext.cell_some (w := W1) (by first | assumption | exact Ext.alloc (by assumption) _ | exact Ext.drew (by assumption) | exact Ext.drew (Ext.drew (by assumption))) a3, Ext.cell_some (w := W1) (by first | assumption | exact Ext.alloc (by assumption) _ | exact Ext.drew (by assumption) | exact Ext.drew (Ext.drew (by assumption))) a4, Ext.cell_some (w := W1) (by first | assumption | exact Ext.alloc (by assumption) _ | exact Ext.drew (by assumption) | exact Ext.drew (Ext.drew (by assumption))) c0, Ext.cell_some (w := W1) (by first | assumption | exact Ext.alloc (by assumption) _ | exact Ext.drew (by assumption) | exact Ext.drew (Ext.drew (by assumption))) c1, Ext.cell_some (w := W1) (by first | assumption | exact Ext.alloc (by assumption) _ | exact Ext.drew (by assumption) | exact Ext.drew (Ext.drew (by assumption))) c2, Ext.cell_some (w := W1) (by first | assumption | exact Ext.alloc (by assumption) _ | exact Ext.drew (by assumption) | exact Ext.drew (Ext.drew (by assumption))) c3, Ext.cell_some (w := W1) (by first | assumption | exact Ext.alloc (by assumption) _ | exact Ext.drew (by assumption) | exact Ext.drew (Ext.drew (by assumption))) c4, Ext.cell_some (w := W1) (by first | assumption | exact Ext.alloc (by assumption) _ | exact Ext.drew (by assumption) | exact Ext.drew (Ext.drew (by assumption))) c5, Ext.cell_some (w := W1) (by first | assumption | exact Ext.alloc (by assumption) _ | exact Ext.drew (by assumption) | exact Ext.drew (Ext.drew (by assumption))) c6, Ext.cell_some (w := W1) (by first | assumption | exact Ext.alloc (by assumption) _ | exact Ext.drew (by assumption) | exact Ext.drew (Ext.drew (by assumption))) c7, Ext.cell_some (w := W1) (by first | assumption | exact Ext.alloc (by assumption) _ | exact Ext.drew (by assumption) | exact Ext.drew (Ext.drew (by assumption))) d0, Ext.cell_some (w := W1) (by first | assumption | exact Ext.alloc (by assumption) _ | exact Ext.drew (by assumption) | exact Ext.drew (Ext.drew (by assumption))) d1, Ext.cell_some (w := W1) (by first | assumption | exact Ext.alloc (by assumption) _ | exact Ext.drew (by assumption) | exact Ext.drew (Ext.drew (by assumption))) d2, Ext.cell_some (w := W1) (by first | assumption | exact Ext.alloc (by assumption) _ | exact Ext.drew (by assumption) | exact Ext.drew (Ext.drew (by assumption))) d3, Ext.cell_some (w := W1) (by first | assumption | exact Ext.alloc (by assumption) _ | exact Ext.drew (by assumption) | exact Ext.drew (Ext.drew (by assumption))) d4, Ext.cell_some (w := W1) (by first | assumption | exact Ext.alloc (by assumption) _ | exact Ext.drew (by assumption) | exact Ext.drew (Ext.drew (by assumption))) d5, Ext.cell_some (w := W1) (by first | assumption | exact Ext.alloc (by assumption) _ | exact Ext.drew (by assumption) | exact Ext.drew (Ext.drew (by assumption))) d6, Ext.cell_some (w := W1) (by first | assumption | exact Ext.alloc (by assumption) _ | exact Ext.drew (by assumption) | exact Ext.drew (Ext.drew (by assumption))) d7⟩)
      (first | (go_at_call_of 87 (Value.pointer pbl); refine (join_any (ll) (ml) ln lv _ _ _ (IsT.ext (w := W1) (by first | assumption | exact Ext.alloc (by assumption) _ | exact Ext.drew (by assumption) | exact Ext.drew (Ext.drew (by assumption))) HO.out) (IsT.ext (w := W1) (by first | assumption | exact Ext.alloc (by assumption) _ | exact Ext.drew (by assumption) | exact Ext.drew (Ext.drew (by assumption))) HML.out) (by unfold Fits; simp only [BT.sz, BT.by_] at *; omega)).mono ?_; rintro e w2 ⟨p2, rfl, ht2, hx2⟩; have hD2 := Ext.trans (a := W1) (by first | assumption | exact Ext.alloc (by assumption) _ | exact Ext.drew (by assumption) | exact Ext.drew (Ext.drew (by assumption))) hx2) | (go_at_call_of 87 (Value.pointer pmr); refine (join_any (mr) (r) n v _ _ _ (IsT.ext (w := W1) (by first | assumption | exact Ext.alloc (by assumption) _ | exact Ext.drew (by assumption) | exact Ext.drew (Ext.drew (by assumption))) HMR.out) (IsT.ext (w := W1) (by first | assumption | exact Ext.alloc (by assumption) _ | exact Ext.drew (by assumption) | exact Ext.drew (Ext.drew (by assumption))) HS.out) (by unfold Fits; simp only [BT.sz, BT.by_] at *; omega)).mono ?_; rintro e w3 ⟨p3, rfl, ht3, hx3⟩; have hD3 := Ext.trans (a := W1) (by first | assumption | exact Ext.alloc (by assumption) _ | exact Ext.drew (by assumption) | exact Ext.drew (Ext.drew (by assumption))) hx3) | (go_at_call_of 87 (Value.pointer p2); refine (join_any (.node ll ln lv ml) (.node mr n v r) mn mv _ _ _ (IsT.ext hx3 ht2) (by assumption) (by unfold Fits; simp only [BT.sz, BT.by_] at *; omega)).mono ?_; rintro e w4 ⟨p4, rfl, ht4, hx4⟩; have hD4 := Ext.trans (a := W1) (by first | assumption | exact Ext.alloc (by assumption) _ | exact Ext.drew (by assumption) | exact Ext.drew (Ext.drew (by assumption))) hx4))
  all_goals go_wp2
  all_goals go_ret
  all_goals exact ⟨_, rfl, by assumption, hB.trans (by assumption)⟩

set_option maxHeartbeats 8000000 in
set_option maxRecDepth 100000 in
theorem bal_r (l rl rr : BT) (rn n : NameS) (rv v : ByteArray) (pl pr : Option Addr) (w : World) (hl : IsT w pl l) (hr : IsT w pr (.node rl rn rv rr)) (hf : Fits l (.node rl rn rv rr) v) (h1 : (l.h : Int) + 1 < (BT.h (.node rl rn rv rr) : Nat)) (h2 : (rl.h : Int) ≤ (rr.h : Int)) :
    Calls Tryz.prog 88 #[.pointer pl, nmV n, .string v, .pointer pr] w fun e w' => ∃ p, e = .returned (.pointer p) ∧ IsT w' p (.node (.node l n v rl) rn rv rr) ∧ Ext w w' := by
  obtain ⟨f1, f2⟩ := hf
  have hh1 := BT.h_le l
  have hh2 := BT.h_le (.node rl rn rv rr)
  simp only [BT.sz, BT.by_] at f1 f2 hh1 hh2
  go_enter Tryz.func88, Tryz.ntmps88
  simp only [nmV]
  go_wp2_with fail
  obtain ⟨W1, hW1⟩ : ∃ W1, w.alloc (.cells #[.int .i64 n.kind, .string n.owner, .int .i64 n.number, .int .i64 n.index, .string n.text] 78) = W1 := ⟨_, rfl⟩
  have hB : Ext w W1 := by rw [← hW1]; exact (Ext.refl w).alloc _
  have a0 : W1.cell? ⟨w.heap.size, 0, none⟩ = some (.int .i64 n.kind) := by rw [← hW1]; simp
  have a1 : W1.cell? ⟨w.heap.size, 1, none⟩ = some (.string n.owner) := by rw [← hW1]; simp
  have a2 : W1.cell? ⟨w.heap.size, 2, none⟩ = some (.int .i64 n.number) := by rw [← hW1]; simp
  have a3 : W1.cell? ⟨w.heap.size, 3, none⟩ = some (.int .i64 n.index) := by rw [← hW1]; simp
  have a4 : W1.cell? ⟨w.heap.size, 4, none⟩ = some (.string n.text) := by rw [← hW1]; simp
  rw [hW1]
  have HS := Lib.hid (IsT.ext hB hl)
  have HB := Lib.hid (IsT.ext hB hr)
  obtain ⟨bb, pbl, pbr, hpb, hbb, hbl, hbr⟩ := IsT.ext hB hr
  subst hpb
  obtain ⟨c0, c1, c2, c3, c4, c5, c6, c7, _⟩ := node_cells hbb
  have HBL := Lib.hid hbl
  have HBR := Lib.hid hbr
  have hD := Ext.refl W1
  clear hW1 hl hr hbb hbl hbr
  refine (tall_any _ _ _ HS.out).mono ?_
  rintro e w' ⟨rfl, rfl⟩
  go_wp2_with fail
  refine (tall_any _ _ _ HB.out).mono ?_
  rintro e w' ⟨rfl, rfl⟩
  go_wp2_with fail
  refine (tall_any _ _ _ HB.out).mono ?_
  rintro e w' ⟨rfl, rfl⟩
  go_wp2_with fail
  refine (tall_any _ _ _ HS.out).mono ?_
  rintro e w' ⟨rfl, rfl⟩
  go_wp2_with fail
  go_region_held3 (fun W => W.cell? ⟨w.heap.size, 0, none⟩ = some (.int .i64 n.kind) ∧ W.cell? ⟨w.heap.size, 1, none⟩ = some (.string n.owner) ∧ W.cell? ⟨w.heap.size, 2, none⟩ = some (.int .i64 n.number) ∧ W.cell? ⟨w.heap.size, 3, none⟩ = some (.int .i64 n.index) ∧ W.cell? ⟨w.heap.size, 4, none⟩ = some (.string n.text) ∧ W.cell? ⟨bb, 0, none⟩ = some (.int .i64 rn.kind) ∧ W.cell? ⟨bb, 1, none⟩ = some (.string rn.owner) ∧ W.cell? ⟨bb, 2, none⟩ = some (.int .i64 rn.number) ∧ W.cell? ⟨bb, 3, none⟩ = some (.int .i64 rn.index) ∧ W.cell? ⟨bb, 4, none⟩ = some (.string rn.text) ∧ W.cell? ⟨bb, 5, none⟩ = some (.string rv) ∧ W.cell? ⟨bb, 6, none⟩ = some (.pointer pbl) ∧ W.cell? ⟨bb, 7, none⟩ = some (.pointer pbr))
    (exact ⟨Ext.cell_some (w := W1) (by first | assumption | exact Ext.alloc (by assumption) _ | exact Ext.drew (by assumption) | exact Ext.drew (Ext.drew (by assumption))) a0, Ext.cell_some (w := W1) (by first | assumption | exact Ext.alloc (by assumption) _ | exact Ext.drew (by assumption) | exact Ext.drew (Ext.drew (by assumption))) a1, Ext.cell_some (w := W1) (by first | assumption | exact Ext.alloc (by assumption) _ | exact Ext.drew (by assumption) | exact Ext.drew (Ext.drew (by assumption))) a2, Ext.cell_some (w := W1) (by first | assumption | exact Ext.alloc (by assumption) _ | exact Ext.drew (by assumption) | exact Ext.drew (Ext.drew (by assumption))) a3, Ext.cell_some (w := W1) (by first | assumption | exact Ext.alloc (by assumption) _ | exact Ext.drew (by assumption) | exact Ext.drew (Ext.drew (by assumption))) a4, Ext.cell_some (w := W1) (by first | assumption | exact Ext.alloc (by assumption) _ | exact Ext.drew (by assumption) | exact Ext.drew (Ext.drew (by assumption))) c0, Ext.cell_some (w := W1) (by first | assumption | exact Ext.alloc (by assumption) _ | exact Ext.drew (by assumption) | exact Ext.drew (Ext.drew (by assumption))) c1, Ext.cell_some (w := W1) (by first | assumption | exact Ext.alloc (by assumption) _ | exact Ext.drew (by assumption) | exact Ext.drew (Ext.drew (by assumption))) c2, Ext.cell_some (w := W1) (by first | assumption | exact Ext.alloc (by assumption) _ | exact Ext.drew (by assumption) | exact Ext.drew (Ext.drew (by assumption))) c3, Ext.cell_some (w := W1) (by first | assumption | exact Ext.alloc (by assumption) _ | exact Ext.drew (by assumption) | exact Ext.drew (Ext.drew (by assumption))) c4, Ext.cell_some (w := W1) (by first | assumption | exact Ext.alloc (by assumption) _ | exact Ext.drew (by assumption) | exact Ext.drew (Ext.drew (by assumption))) c5, Ext.cell_some (w := W1) (by first | assumption | exact Ext.alloc (by assumption) _ | exact Ext.drew (by assumption) | exact Ext.drew (Ext.drew (by assumption))) c6, Ext.cell_some (w := W1) (by first | assumption | exact Ext.alloc (by assumption) _ | exact Ext.drew (by assumption) | exact Ext.drew (Ext.drew (by assumption))) c7⟩)
    (first | (go_at_call_of 112 (Value.pointer pbl); refine (tall_any _ _ _ (IsT.ext (w := W1) (by first | assumption | exact Ext.alloc (by assumption) _ | exact Ext.drew (by assumption) | exact Ext.drew (Ext.drew (by assumption))) HBL.out)).mono ?_; rintro e w' ⟨rfl, rfl⟩) | (go_at_call_of 112 (Value.pointer pbr); refine (tall_any _ _ _ (IsT.ext (w := W1) (by first | assumption | exact Ext.alloc (by assumption) _ | exact Ext.drew (by assumption) | exact Ext.drew (Ext.drew (by assumption))) HBR.out)).mono ?_; rintro e w' ⟨rfl, rfl⟩))
  all_goals go_wp2_with fail
  all_goals
    go_region_held3 (fun W => W.cell? ⟨w.heap.size, 0, none⟩ = some (.int .i64 n.kind) ∧ W.cell? ⟨w.heap.size, 1, none⟩ = some (.string n.owner) ∧ W.cell? ⟨w.heap.size, 2, none⟩ = some (.int .i64 n.number) ∧ W.cell? ⟨w.heap.size, 3, none⟩ = some (.int .i64 n.index) ∧ W.cell? ⟨w.heap.size, 4, none⟩ = some (.string n.text) ∧ W.cell? ⟨bb, 0, none⟩ = some (.int .i64 rn.kind) ∧ W.cell? ⟨bb, 1, none⟩ = some (.string rn.owner) ∧ W.cell? ⟨bb, 2, none⟩ = some (.int .i64 rn.number) ∧ W.cell? ⟨bb, 3, none⟩ = some (.int .i64 rn.index) ∧ W.cell? ⟨bb, 4, none⟩ = some (.string rn.text) ∧ W.cell? ⟨bb, 5, none⟩ = some (.string rv) ∧ W.cell? ⟨bb, 6, none⟩ = some (.pointer pbl) ∧ W.cell? ⟨bb, 7, none⟩ = some (.pointer pbr))
      (exact ⟨Ext.cell_some (w := W1) (by first | assumption | exact Ext.alloc (by assumption) _ | exact Ext.drew (by assumption) | exact Ext.drew (Ext.drew (by assumption))) a0, Ext.cell_some (w := W1) (by first | assumption | exact Ext.alloc (by assumption) _ | exact Ext.drew (by assumption) | exact Ext.drew (Ext.drew (by assumption))) a1, Ext.cell_some (w := W1) (by first | assumption | exact Ext.alloc (by assumption) _ | exact Ext.drew (by assumption) | exact Ext.drew (Ext.drew (by assumption))) a2, Ext.cell_some (w := W1) (by first | assumption | exact Ext.alloc (by assumption) _ | exact Ext.drew (by assumption) | exact Ext.drew (Ext.drew (by assumption))) a3, Ext.cell_some (w := W1) (by first | assumption | exact Ext.alloc (by assumption) _ | exact Ext.drew (by assumption) | exact Ext.drew (Ext.drew (by assumption))) a4, Ext.cell_some (w := W1) (by first | assumption | exact Ext.alloc (by assumption) _ | exact Ext.drew (by assumption) | exact Ext.drew (Ext.drew (by assumption))) c0, Ext.cell_some (w := W1) (by first | assumption | exact Ext.alloc (by assumption) _ | exact Ext.drew (by assumption) | exact Ext.drew (Ext.drew (by assumption))) c1, Ext.cell_some (w := W1) (by first | assumption | exact Ext.alloc (by assumption) _ | exact Ext.drew (by assumption) | exact Ext.drew (Ext.drew (by assumption))) c2, Ext.cell_some (w := W1) (by first | assumption | exact Ext.alloc (by assumption) _ | exact Ext.drew (by assumption) | exact Ext.drew (Ext.drew (by assumption))) c3, Ext.cell_some (w := W1) (by first | assumption | exact Ext.alloc (by assumption) _ | exact Ext.drew (by assumption) | exact Ext.drew (Ext.drew (by assumption))) c4, Ext.cell_some (w := W1) (by first | assumption | exact Ext.alloc (by assumption) _ | exact Ext.drew (by assumption) | exact Ext.drew (Ext.drew (by assumption))) c5, Ext.cell_some (w := W1) (by first | assumption | exact Ext.alloc (by assumption) _ | exact Ext.drew (by assumption) | exact Ext.drew (Ext.drew (by assumption))) c6, Ext.cell_some (w := W1) (by first | assumption | exact Ext.alloc (by assumption) _ | exact Ext.drew (by assumption) | exact Ext.drew (Ext.drew (by assumption))) c7⟩)
      (first | (go_at_call_of 87 (Value.pointer pl); refine (join_any (l) (rl) n v _ _ _ (IsT.ext (w := W1) (by first | assumption | exact Ext.alloc (by assumption) _ | exact Ext.drew (by assumption) | exact Ext.drew (Ext.drew (by assumption))) HS.out) (IsT.ext (w := W1) (by first | assumption | exact Ext.alloc (by assumption) _ | exact Ext.drew (by assumption) | exact Ext.drew (Ext.drew (by assumption))) HBL.out) (by unfold Fits; simp only [BT.sz, BT.by_] at *; omega)).mono ?_; rintro e w2 ⟨p2, rfl, ht2, hx2⟩; have hD2 := Ext.trans (a := W1) (by first | assumption | exact Ext.alloc (by assumption) _ | exact Ext.drew (by assumption) | exact Ext.drew (Ext.drew (by assumption))) hx2) | (go_at_call_of 87 (Value.pointer p2); refine (join_any (.node l n v rl) (rr) rn rv _ _ _ (by assumption) (IsT.ext (w := W1) (by first | assumption | exact Ext.alloc (by assumption) _ | exact Ext.drew (by assumption) | exact Ext.drew (Ext.drew (by assumption))) HBR.out) (by unfold Fits; simp only [BT.sz, BT.by_] at *; omega)).mono ?_; rintro e w3 ⟨p3, rfl, ht3, hx3⟩; have hD3 := Ext.trans (a := W1) (by first | assumption | exact Ext.alloc (by assumption) _ | exact Ext.drew (by assumption) | exact Ext.drew (Ext.drew (by assumption))) hx3))
  all_goals go_wp2
  all_goals go_ret
  all_goals exact ⟨_, rfl, by assumption, hB.trans (by assumption)⟩

set_option maxHeartbeats 8000000 in
set_option maxRecDepth 100000 in
theorem bal_rr (l ml mr rr : BT) (rn mn n : NameS) (rv mv v : ByteArray) (pl pr : Option Addr) (w : World) (hl : IsT w pl l) (hr : IsT w pr (.node (.node ml mn mv mr) rn rv rr)) (hf : Fits l (.node (.node ml mn mv mr) rn rv rr) v) (h1 : (l.h : Int) + 1 < (BT.h (.node (.node ml mn mv mr) rn rv rr) : Nat)) (h2 : (rr.h : Int) < (BT.h (.node ml mn mv mr) : Nat)) :
    Calls Tryz.prog 88 #[.pointer pl, nmV n, .string v, .pointer pr] w fun e w' => ∃ p, e = .returned (.pointer p) ∧ IsT w' p (.node (.node l n v ml) mn mv (.node mr rn rv rr)) ∧ Ext w w' := by
  obtain ⟨f1, f2⟩ := hf
  have hh1 := BT.h_le l
  have hh2 := BT.h_le (.node (.node ml mn mv mr) rn rv rr)
  simp only [BT.sz, BT.by_] at f1 f2 hh1 hh2
  go_enter Tryz.func88, Tryz.ntmps88
  simp only [nmV]
  go_wp2_with fail
  obtain ⟨W1, hW1⟩ : ∃ W1, w.alloc (.cells #[.int .i64 n.kind, .string n.owner, .int .i64 n.number, .int .i64 n.index, .string n.text] 78) = W1 := ⟨_, rfl⟩
  have hB : Ext w W1 := by rw [← hW1]; exact (Ext.refl w).alloc _
  have a0 : W1.cell? ⟨w.heap.size, 0, none⟩ = some (.int .i64 n.kind) := by rw [← hW1]; simp
  have a1 : W1.cell? ⟨w.heap.size, 1, none⟩ = some (.string n.owner) := by rw [← hW1]; simp
  have a2 : W1.cell? ⟨w.heap.size, 2, none⟩ = some (.int .i64 n.number) := by rw [← hW1]; simp
  have a3 : W1.cell? ⟨w.heap.size, 3, none⟩ = some (.int .i64 n.index) := by rw [← hW1]; simp
  have a4 : W1.cell? ⟨w.heap.size, 4, none⟩ = some (.string n.text) := by rw [← hW1]; simp
  rw [hW1]
  have HS := Lib.hid (IsT.ext hB hl)
  have HB := Lib.hid (IsT.ext hB hr)
  obtain ⟨bb, pbl, pbr, hpb, hbb, hbl, hbr⟩ := IsT.ext hB hr
  subst hpb
  obtain ⟨c0, c1, c2, c3, c4, c5, c6, c7, _⟩ := node_cells hbb
  have HM := Lib.hid hbl
  obtain ⟨bm, pml, pmr, hpm, hbm, hml, hmr⟩ := hbl
  subst hpm
  obtain ⟨d0, d1, d2, d3, d4, d5, d6, d7, _⟩ := node_cells hbm
  have HML := Lib.hid hml
  have HMR := Lib.hid hmr
  have HO := Lib.hid hbr
  have hD := Ext.refl W1
  clear hW1 hl hr hbb hbr hbm hml hmr
  refine (tall_any _ _ _ HS.out).mono ?_
  rintro e w' ⟨rfl, rfl⟩
  go_wp2_with fail
  refine (tall_any _ _ _ HB.out).mono ?_
  rintro e w' ⟨rfl, rfl⟩
  go_wp2_with fail
  refine (tall_any _ _ _ HB.out).mono ?_
  rintro e w' ⟨rfl, rfl⟩
  go_wp2_with fail
  refine (tall_any _ _ _ HS.out).mono ?_
  rintro e w' ⟨rfl, rfl⟩
  go_wp2_with fail
  go_region_held3 (fun W => W.cell? ⟨w.heap.size, 0, none⟩ = some (.int .i64 n.kind) ∧ W.cell? ⟨w.heap.size, 1, none⟩ = some (.string n.owner) ∧ W.cell? ⟨w.heap.size, 2, none⟩ = some (.int .i64 n.number) ∧ W.cell? ⟨w.heap.size, 3, none⟩ = some (.int .i64 n.index) ∧ W.cell? ⟨w.heap.size, 4, none⟩ = some (.string n.text) ∧ W.cell? ⟨bb, 0, none⟩ = some (.int .i64 rn.kind) ∧ W.cell? ⟨bb, 1, none⟩ = some (.string rn.owner) ∧ W.cell? ⟨bb, 2, none⟩ = some (.int .i64 rn.number) ∧ W.cell? ⟨bb, 3, none⟩ = some (.int .i64 rn.index) ∧ W.cell? ⟨bb, 4, none⟩ = some (.string rn.text) ∧ W.cell? ⟨bb, 5, none⟩ = some (.string rv) ∧ W.cell? ⟨bb, 6, none⟩ = some (.pointer (some ⟨bm, 0, none⟩)) ∧ W.cell? ⟨bb, 7, none⟩ = some (.pointer pbr))
    (exact ⟨Ext.cell_some (w := W1) (by first | assumption | exact Ext.alloc (by assumption) _ | exact Ext.drew (by assumption) | exact Ext.drew (Ext.drew (by assumption))) a0, Ext.cell_some (w := W1) (by first | assumption | exact Ext.alloc (by assumption) _ | exact Ext.drew (by assumption) | exact Ext.drew (Ext.drew (by assumption))) a1, Ext.cell_some (w := W1) (by first | assumption | exact Ext.alloc (by assumption) _ | exact Ext.drew (by assumption) | exact Ext.drew (Ext.drew (by assumption))) a2, Ext.cell_some (w := W1) (by first | assumption | exact Ext.alloc (by assumption) _ | exact Ext.drew (by assumption) | exact Ext.drew (Ext.drew (by assumption))) a3, Ext.cell_some (w := W1) (by first | assumption | exact Ext.alloc (by assumption) _ | exact Ext.drew (by assumption) | exact Ext.drew (Ext.drew (by assumption))) a4, Ext.cell_some (w := W1) (by first | assumption | exact Ext.alloc (by assumption) _ | exact Ext.drew (by assumption) | exact Ext.drew (Ext.drew (by assumption))) c0, Ext.cell_some (w := W1) (by first | assumption | exact Ext.alloc (by assumption) _ | exact Ext.drew (by assumption) | exact Ext.drew (Ext.drew (by assumption))) c1, Ext.cell_some (w := W1) (by first | assumption | exact Ext.alloc (by assumption) _ | exact Ext.drew (by assumption) | exact Ext.drew (Ext.drew (by assumption))) c2, Ext.cell_some (w := W1) (by first | assumption | exact Ext.alloc (by assumption) _ | exact Ext.drew (by assumption) | exact Ext.drew (Ext.drew (by assumption))) c3, Ext.cell_some (w := W1) (by first | assumption | exact Ext.alloc (by assumption) _ | exact Ext.drew (by assumption) | exact Ext.drew (Ext.drew (by assumption))) c4, Ext.cell_some (w := W1) (by first | assumption | exact Ext.alloc (by assumption) _ | exact Ext.drew (by assumption) | exact Ext.drew (Ext.drew (by assumption))) c5, Ext.cell_some (w := W1) (by first | assumption | exact Ext.alloc (by assumption) _ | exact Ext.drew (by assumption) | exact Ext.drew (Ext.drew (by assumption))) c6, Ext.cell_some (w := W1) (by first | assumption | exact Ext.alloc (by assumption) _ | exact Ext.drew (by assumption) | exact Ext.drew (Ext.drew (by assumption))) c7⟩)
    (first | (go_at_call_of 112 (Value.pointer (some ⟨bm, 0, none⟩)); refine (tall_any _ _ _ (IsT.ext (w := W1) (by first | assumption | exact Ext.alloc (by assumption) _ | exact Ext.drew (by assumption) | exact Ext.drew (Ext.drew (by assumption))) HM.out)).mono ?_; rintro e w' ⟨rfl, rfl⟩) | (go_at_call_of 112 (Value.pointer pbr); refine (tall_any _ _ _ (IsT.ext (w := W1) (by first | assumption | exact Ext.alloc (by assumption) _ | exact Ext.drew (by assumption) | exact Ext.drew (Ext.drew (by assumption))) HO.out)).mono ?_; rintro e w' ⟨rfl, rfl⟩))
  all_goals go_wp2_with fail
  all_goals
    go_region_held3 (fun W => W.cell? ⟨w.heap.size, 0, none⟩ = some (.int .i64 n.kind) ∧ W.cell? ⟨w.heap.size, 1, none⟩ = some (.string n.owner) ∧ W.cell? ⟨w.heap.size, 2, none⟩ = some (.int .i64 n.number) ∧ W.cell? ⟨w.heap.size, 3, none⟩ = some (.int .i64 n.index) ∧ W.cell? ⟨w.heap.size, 4, none⟩ = some (.string n.text) ∧ W.cell? ⟨bb, 0, none⟩ = some (.int .i64 rn.kind) ∧ W.cell? ⟨bb, 1, none⟩ = some (.string rn.owner) ∧ W.cell? ⟨bb, 2, none⟩ = some (.int .i64 rn.number) ∧ W.cell? ⟨bb, 3, none⟩ = some (.int .i64 rn.index) ∧ W.cell? ⟨bb, 4, none⟩ = some (.string rn.text) ∧ W.cell? ⟨bb, 5, none⟩ = some (.string rv) ∧ W.cell? ⟨bb, 6, none⟩ = some (.pointer (some ⟨bm, 0, none⟩)) ∧ W.cell? ⟨bb, 7, none⟩ = some (.pointer pbr) ∧ W.cell? ⟨bm, 0, none⟩ = some (.int .i64 mn.kind) ∧ W.cell? ⟨bm, 1, none⟩ = some (.string mn.owner) ∧ W.cell? ⟨bm, 2, none⟩ = some (.int .i64 mn.number) ∧ W.cell? ⟨bm, 3, none⟩ = some (.int .i64 mn.index) ∧ W.cell? ⟨bm, 4, none⟩ = some (.string mn.text) ∧ W.cell? ⟨bm, 5, none⟩ = some (.string mv) ∧ W.cell? ⟨bm, 6, none⟩ = some (.pointer pml) ∧ W.cell? ⟨bm, 7, none⟩ = some (.pointer pmr))
      (exact ⟨Ext.cell_some (w := W1) (by first | assumption | exact Ext.alloc (by assumption) _ | exact Ext.drew (by assumption) | exact Ext.drew (Ext.drew (by assumption))) a0, Ext.cell_some (w := W1) (by first | assumption | exact Ext.alloc (by assumption) _ | exact Ext.drew (by assumption) | exact Ext.drew (Ext.drew (by assumption))) a1, Ext.cell_some (w := W1) (by first | assumption | exact Ext.alloc (by assumption) _ | exact Ext.drew (by assumption) | exact Ext.drew (Ext.drew (by assumption))) a2, Ext.cell_some (w := W1) (by first | assumption | exact Ext.alloc (by assumption) _ | exact Ext.drew (by assumption) | exact Ext.drew (Ext.drew (by assumption))) a3, Ext.cell_some (w := W1) (by first | assumption | exact Ext.alloc (by assumption) _ | exact Ext.drew (by assumption) | exact Ext.drew (Ext.drew (by assumption))) a4, Ext.cell_some (w := W1) (by first | assumption | exact Ext.alloc (by assumption) _ | exact Ext.drew (by assumption) | exact Ext.drew (Ext.drew (by assumption))) c0, Ext.cell_some (w := W1) (by first | assumption | exact Ext.alloc (by assumption) _ | exact Ext.drew (by assumption) | exact Ext.drew (Ext.drew (by assumption))) c1, Ext.cell_some (w := W1) (by first | assumption | exact Ext.alloc (by assumption) _ | exact Ext.drew (by assumption) | exact Ext.drew (Ext.drew (by assumption))) c2, Ext.cell_some (w := W1) (by first | assumption | exact Ext.alloc (by assumption) _ | exact Ext.drew (by assumption) | exact Ext.drew (Ext.drew (by assumption))) c3, Ext.cell_some (w := W1) (by first | assumption | exact Ext.alloc (by assumption) _ | exact Ext.drew (by assumption) | exact Ext.drew (Ext.drew (by assumption))) c4, Ext.cell_some (w := W1) (by first | assumption | exact Ext.alloc (by assumption) _ | exact Ext.drew (by assumption) | exact Ext.drew (Ext.drew (by assumption))) c5, Ext.cell_some (w := W1) (by first | assumption | exact Ext.alloc (by assumption) _ | exact Ext.drew (by assumption) | exact Ext.drew (Ext.drew (by assumption))) c6, Ext.cell_some (w := W1) (by first | assumption | exact Ext.alloc (by assumption) _ | exact Ext.drew (by assumption) | exact Ext.drew (Ext.drew (by assumption))) c7, Ext.cell_some (w := W1) (by first | assumption | exact Ext.alloc (by assumption) _ | exact Ext.drew (by assumption) | exact Ext.drew (Ext.drew (by assumption))) d0, Ext.cell_some (w := W1) (by first | assumption | exact Ext.alloc (by assumption) _ | exact Ext.drew (by assumption) | exact Ext.drew (Ext.drew (by assumption))) d1, Ext.cell_some (w := W1) (by first | assumption | exact Ext.alloc (by assumption) _ | exact Ext.drew (by assumption) | exact Ext.drew (Ext.drew (by assumption))) d2, Ext.cell_some (w := W1) (by first | assumption | exact Ext.alloc (by assumption) _ | exact Ext.drew (by assumption) | exact Ext.drew (Ext.drew (by assumption))) d3, Ext.cell_some (w := W1) (by first | assumption | exact Ext.alloc (by assumption) _ | exact Ext.drew (by assumption) | exact Ext.drew (Ext.drew (by assumption))) d4, Ext.cell_some (w := W1) (by first | assumption | exact Ext.alloc (by assumption) _ | exact Ext.drew (by assumption) | exact Ext.drew (Ext.drew (by assumption))) d5, Ext.cell_some (w := W1) (by first | assumption | exact Ext.alloc (by assumption) _ | exact Ext.drew (by assumption) | exact Ext.drew (Ext.drew (by assumption))) d6, Ext.cell_some (w := W1) (by first | assumption | exact Ext.alloc (by assumption) _ | exact Ext.drew (by assumption) | exact Ext.drew (Ext.drew (by assumption))) d7⟩)
      (first | (go_at_call_of 87 (Value.pointer pl); refine (join_any (l) (ml) n v _ _ _ (IsT.ext (w := W1) (by first | assumption | exact Ext.alloc (by assumption) _ | exact Ext.drew (by assumption) | exact Ext.drew (Ext.drew (by assumption))) HS.out) (IsT.ext (w := W1) (by first | assumption | exact Ext.alloc (by assumption) _ | exact Ext.drew (by assumption) | exact Ext.drew (Ext.drew (by assumption))) HML.out) (by unfold Fits; simp only [BT.sz, BT.by_] at *; omega)).mono ?_; rintro e w2 ⟨p2, rfl, ht2, hx2⟩; have hD2 := Ext.trans (a := W1) (by first | assumption | exact Ext.alloc (by assumption) _ | exact Ext.drew (by assumption) | exact Ext.drew (Ext.drew (by assumption))) hx2) | (go_at_call_of 87 (Value.pointer pmr); refine (join_any (mr) (rr) rn rv _ _ _ (IsT.ext (w := W1) (by first | assumption | exact Ext.alloc (by assumption) _ | exact Ext.drew (by assumption) | exact Ext.drew (Ext.drew (by assumption))) HMR.out) (IsT.ext (w := W1) (by first | assumption | exact Ext.alloc (by assumption) _ | exact Ext.drew (by assumption) | exact Ext.drew (Ext.drew (by assumption))) HO.out) (by unfold Fits; simp only [BT.sz, BT.by_] at *; omega)).mono ?_; rintro e w3 ⟨p3, rfl, ht3, hx3⟩; have hD3 := Ext.trans (a := W1) (by first | assumption | exact Ext.alloc (by assumption) _ | exact Ext.drew (by assumption) | exact Ext.drew (Ext.drew (by assumption))) hx3) | (go_at_call_of 87 (Value.pointer p2); refine (join_any (.node l n v ml) (.node mr rn rv rr) mn mv _ _ _ (IsT.ext hx3 ht2) (by assumption) (by unfold Fits; simp only [BT.sz, BT.by_] at *; omega)).mono ?_; rintro e w4 ⟨p4, rfl, ht4, hx4⟩; have hD4 := Ext.trans (a := W1) (by first | assumption | exact Ext.alloc (by assumption) _ | exact Ext.drew (by assumption) | exact Ext.drew (Ext.drew (by assumption))) hx4))
  all_goals go_wp2
  all_goals go_ret
  all_goals exact ⟨_, rfl, by assumption, hB.trans (by assumption)⟩

theorem bal_any (l r : BT) (n : NameS) (v : ByteArray) (pl pr : Option Addr) (w : World) (hl : IsT w pl l) (hr : IsT w pr r) (hf : Fits l r v) :
    Calls Tryz.prog 88 #[.pointer pl, nmV n, .string v, .pointer pr] w fun e w' => ∃ p, e = .returned (.pointer p) ∧ IsT w' p (BT.bal l n v r) ∧ Ext w w' := by
  unfold BT.bal
  by_cases h1 : r.h + 1 < l.h
  · rw [if_pos h1]
    cases l with
    | nil => simp [BT.h] at h1
    | node ll ln lv lr =>
      simp only
      by_cases h2 : lr.h ≤ ll.h
      · rw [if_pos h2]
        exact bal_l ll lr r ln n lv v pl pr w hl hr hf (by omega) (by omega)
      · rw [if_neg h2]
        cases lr with
        | nil => simp [BT.h] at h2
        | node ml mn mv mr => exact bal_ll ll ml mr r ln mn n lv mv v pl pr w hl hr hf (by omega) (by omega)
  · rw [if_neg h1]
    by_cases h3 : l.h + 1 < r.h
    · rw [if_pos h3]
      cases r with
      | nil => simp [BT.h] at h3
      | node rl rn rv rr =>
        simp only
        by_cases h2 : rl.h ≤ rr.h
        · rw [if_pos h2]
          exact bal_r l rl rr rn n rv v pl pr w hl hr hf (by omega) (by omega)
        · rw [if_neg h2]
          cases rl with
          | nil => simp [BT.h] at h2
          | node ml mn mv mr => exact bal_rr l ml mr rr rn mn n rv mv v pl pr w hl hr hf (by omega) (by omega)
    · rw [if_neg h3]
      exact bal_none l r n v pl pr w hl hr hf (by omega) (by omega)
end Go.Proofs.YtehmgeodpjmfaaaGreatDoor
