/- object.Name's Check at the kinds Out and Counter. -/
import Derived.Deep.DeepCutAuto
import Derived.Test.YtehmgeodpjmfaaaGreatDoorUses
namespace Go.Proofs.YtehmgeodpjmfaaaGreatDoor
open Go.RowKit
theorem set5 {w : World} {b : Nat} {T : TypeId} {x0 x1 x2 x3 x4 : Value} (h : w.heap[b]? = some (Obj.cells #[x0, x1, x2, x3, x4] T (0, 0))) (y0 y1 y2 y3 y4 : Value) :
    (((((w.setCell ⟨b, 0, none⟩ y0).setCell ⟨b, 1, none⟩ y1).setCell ⟨b, 2, none⟩ y2).setCell ⟨b, 3, none⟩ y3).setCell ⟨b, 4, none⟩ y4).heap[b]? = some (Obj.cells #[y0, y1, y2, y3, y4] T (0, 0)) :=
  heap_setCell_at (heap_setCell_at (heap_setCell_at (heap_setCell_at (heap_setCell_at h y0) y1) y2) y3) y4
def outNm (o : ByteArray) (n i : Int) : NameS := ⟨18, o, n, i, ⟨#[]⟩⟩
def cntNm (o : ByteArray) : NameS := ⟨5, o, 0, 0, ⟨#[]⟩⟩

set_option maxHeartbeats 8000000 in
set_option maxRecDepth 100000 in
theorem check_out (o : ByteArray) (n i : Int) (ho : o.size ≤ 9223372036854775000) (hv : validS o.data.toList = true) (n0 : 0 ≤ n) (n1 : n ≤ 1073741824) (i0 : 0 ≤ i) (i1 : i ≤ 1073741824) (w : World) :
    Calls Tryz.prog 58 #[nmV (outNm o n i)] w fun e w' => e = .returned (.int .i64 0) ∧ Ext w w' := by
  have hv2 : ∀ W, Calls Tryz.prog 70 #[.string o] W fun e w' => e = .returned (.bool true) ∧ Ext W w' := fun W => by have := valid_any o ho W; rwa [hv] at this
  have HV := Lib.hid hv2
  clear hv2 hv
  have hix : ∀ W, (Instr.index 172 (.agg usesV) (.int .i64 18)).run Tryz.prog W = .ok (.agg #[.string { data := #[111, 117, 116] }, .bool true, .bool true, .bool false, .int .i64 1073741824]) W := fun _ => by kernel_rfl
  simp only [nmV, outNm]
  go_enter Tryz.func58, Tryz.ntmps58
  go_wp2_with fail
  obtain ⟨W1, hW1⟩ : ∃ W1, w.alloc (.cells #[.int .i64 18, .string o, .int .i64 n, .int .i64 i, .string { data := #[] }] 78) = W1 := ⟨_, rfl⟩
  have hB : Ext w W1 := by rw [← hW1]; exact (Ext.refl w).alloc _
  have a0 : W1.cell? ⟨w.heap.size, 0, none⟩ = some (.int .i64 18) := by rw [← hW1]; simp
  have a1 : W1.cell? ⟨w.heap.size, 1, none⟩ = some (.string o) := by rw [← hW1]; simp
  have a2 : W1.cell? ⟨w.heap.size, 2, none⟩ = some (.int .i64 n) := by rw [← hW1]; simp
  have a3 : W1.cell? ⟨w.heap.size, 3, none⟩ = some (.int .i64 i) := by rw [← hW1]; simp
  have a4 : W1.cell? ⟨w.heap.size, 4, none⟩ = some (.string { data := #[] }) := by rw [← hW1]; simp
  rw [hW1]
  have hD := Ext.refl W1
  clear hW1
  go_upto_region 3 with fail
  go_cut [3] (fun t3 wx => ∃ B3, t3 = .pointer (some ⟨B3, 0, none⟩) ∧ wx.heap[B3]? = some (Obj.cells #[.string { data := #[111, 117, 116] }, .bool true, .bool true, .bool false, .int .i64 1073741824] 171 (0, 0)) ∧ Ext W1 wx)
  case first =>
    go_region_held3 (fun W => W.cell? ⟨w.heap.size, 0, none⟩ = some (.int .i64 18) ∧ W.cell? ⟨w.heap.size, 1, none⟩ = some (.string o) ∧ W.cell? ⟨w.heap.size, 2, none⟩ = some (.int .i64 n) ∧ W.cell? ⟨w.heap.size, 3, none⟩ = some (.int .i64 i) ∧ W.cell? ⟨w.heap.size, 4, none⟩ = some (.string { data := #[] }))
      (exact ⟨Ext.cell_some (w := W1) (by repeat (first | with_reducible assumption | with_reducible refine Ext.drew ?_ | with_reducible refine Ext.alloc ?_ _ | with_reducible refine Ext.setCell ?_ (Nat.le_refl _) _ | with_reducible exact Ext.refl _)) a0, Ext.cell_some (w := W1) (by repeat (first | with_reducible assumption | with_reducible refine Ext.drew ?_ | with_reducible refine Ext.alloc ?_ _ | with_reducible refine Ext.setCell ?_ (Nat.le_refl _) _ | with_reducible exact Ext.refl _)) a1, Ext.cell_some (w := W1) (by repeat (first | with_reducible assumption | with_reducible refine Ext.drew ?_ | with_reducible refine Ext.alloc ?_ _ | with_reducible refine Ext.setCell ?_ (Nat.le_refl _) _ | with_reducible exact Ext.refl _)) a2, Ext.cell_some (w := W1) (by repeat (first | with_reducible assumption | with_reducible refine Ext.drew ?_ | with_reducible refine Ext.alloc ?_ _ | with_reducible refine Ext.setCell ?_ (Nat.le_refl _) _ | with_reducible exact Ext.refl _)) a3, Ext.cell_some (w := W1) (by repeat (first | with_reducible assumption | with_reducible refine Ext.drew ?_ | with_reducible refine Ext.alloc ?_ _ | with_reducible refine Ext.setCell ?_ (Nat.le_refl _) _ | with_reducible exact Ext.refl _)) a4⟩)
      (first | (go_at_call 83; refine (uses_any (World.drew (World.alloc W1 _))).mono ?_; rintro e w2 ⟨rfl, hx2⟩; have hD2 := Ext.trans (a := W1) (by repeat (first | with_reducible assumption | with_reducible refine Ext.drew ?_ | with_reducible refine Ext.alloc ?_ _ | with_reducible refine Ext.setCell ?_ (Nat.le_refl _) _ | with_reducible exact Ext.refl _)) hx2; have q0 : w2.cell? ⟨W1.heap.size, 0, none⟩ = some (.string { data := #[] }) := hx2.cell_some (by simp); have q1 : w2.cell? ⟨W1.heap.size, 1, none⟩ = some (.bool false) := hx2.cell_some (by simp); have q2 : w2.cell? ⟨W1.heap.size, 2, none⟩ = some (.bool false) := hx2.cell_some (by simp); have q3 : w2.cell? ⟨W1.heap.size, 3, none⟩ = some (.bool false) := hx2.cell_some (by simp); have q4 : w2.cell? ⟨W1.heap.size, 4, none⟩ = some (.int .i64 0) := hx2.cell_some (by simp); have g0 : w2.frozen? ⟨W1.heap.size, 0, none⟩ = false := (hx2.frozen (by simp)).trans (by simp); have g1 : w2.frozen? ⟨W1.heap.size, 1, none⟩ = false := (hx2.frozen (by simp)).trans (by simp); have g2 : w2.frozen? ⟨W1.heap.size, 2, none⟩ = false := (hx2.frozen (by simp)).trans (by simp); have g3 : w2.frozen? ⟨W1.heap.size, 3, none⟩ = false := (hx2.frozen (by simp)).trans (by simp); have g4 : w2.frozen? ⟨W1.heap.size, 4, none⟩ = false := (hx2.frozen (by simp)).trans (by simp); have hh2 := (hx2.block (b := W1.heap.size) (by simp)).trans (heap_new W1 _); have HH2 := Lib.hid hh2; clear hh2) | (go_at_call 83; refine (uses_any _).mono ?_; rintro e w2 ⟨rfl, hx2⟩; have hD2 := Ext.trans (a := W1) (by repeat (first | with_reducible assumption | with_reducible refine Ext.drew ?_ | with_reducible refine Ext.alloc ?_ _ | with_reducible refine Ext.setCell ?_ (Nat.le_refl _) _ | with_reducible exact Ext.refl _)) hx2))
    all_goals (go_wp2_with fail; go_meet)
    all_goals first | (refine ⟨W1.heap.size, ?_, ?_, ?_⟩; (with_reducible rfl); exact set5 HH2.out _ _ _ _ _; exact (by repeat (first | with_reducible assumption | with_reducible refine Ext.drew ?_ | with_reducible refine Ext.alloc ?_ _ | with_reducible refine Ext.setCell ?_ (Nat.le_refl _) _ | with_reducible exact Ext.refl _))) | (refine ⟨w2.heap.size, ?_, ?_, ?_⟩; (with_reducible rfl); exact heap_new w2 _; exact (by repeat (first | with_reducible assumption | with_reducible refine Ext.drew ?_ | with_reducible refine Ext.alloc ?_ _ | with_reducible refine Ext.setCell ?_ (Nat.le_refl _) _ | with_reducible exact Ext.refl _)))
  case rest =>
    obtain ⟨B3, rfl, hu, hx⟩ := hcut
    have hBc := hB.trans hx
    have u0 := (cells_at hu).1 0 _ rfl
    have u1 := (cells_at hu).1 1 _ rfl
    have u2 := (cells_at hu).1 2 _ rfl
    have u3 := (cells_at hu).1 3 _ rfl
    have u4 := (cells_at hu).1 4 _ rfl
    have m0 := hx.cell_some a0
    have m1 := hx.cell_some a1
    have m2 := hx.cell_some a2
    have m3 := hx.cell_some a3
    have m4 := hx.cell_some a4
    clear hix a0 a1 a2 a3 a4
    have HU := Lib.hid hu
    clear hu
    go_wp2_with (first | (go_at_call 70; refine (HV.out _).mono ?_; rintro e w4 ⟨rfl, hx4⟩; have v0 := hx4.cell_some u0; have v1 := hx4.cell_some u1; have v2 := hx4.cell_some u2; have v3 := hx4.cell_some u3; have v4 := hx4.cell_some u4; have o0 := hx4.cell_some m0; have o1 := hx4.cell_some m1; have o2 := hx4.cell_some m2; have o3 := hx4.cell_some m3; have o4 := hx4.cell_some m4; have hB4 := hBc.trans hx4) | (go_at_call 84; refine (number_any _ _ (by omega) (by omega)).mono ?_; rintro e w' ⟨rfl, rfl⟩))
    all_goals go_ret
    all_goals exact ⟨rfl, hB4⟩
set_option maxHeartbeats 8000000 in
set_option maxRecDepth 100000 in
theorem check_cnt (o : ByteArray) (ho : o.size ≤ 9223372036854775000) (hv : validS o.data.toList = true) (w : World) :
    Calls Tryz.prog 58 #[nmV (cntNm o)] w fun e w' => e = .returned (.int .i64 0) ∧ Ext w w' := by
  have hv2 : ∀ W, Calls Tryz.prog 70 #[.string o] W fun e w' => e = .returned (.bool true) ∧ Ext W w' := fun W => by have := valid_any o ho W; rwa [hv] at this
  have HV := Lib.hid hv2
  clear hv2 hv
  have hix : ∀ W, (Instr.index 172 (.agg usesV) (.int .i64 5)).run Tryz.prog W = .ok (.agg #[.string { data := #[99, 111, 117, 110, 116, 101, 114] }, .bool true, .bool false, .bool false, .int .i64 (-1)]) W := fun _ => by kernel_rfl
  simp only [nmV, cntNm]
  go_enter Tryz.func58, Tryz.ntmps58
  go_wp2_with fail
  obtain ⟨W1, hW1⟩ : ∃ W1, w.alloc (.cells #[.int .i64 5, .string o, .int .i64 0, .int .i64 0, .string { data := #[] }] 78) = W1 := ⟨_, rfl⟩
  have hB : Ext w W1 := by rw [← hW1]; exact (Ext.refl w).alloc _
  have a0 : W1.cell? ⟨w.heap.size, 0, none⟩ = some (.int .i64 5) := by rw [← hW1]; simp
  have a1 : W1.cell? ⟨w.heap.size, 1, none⟩ = some (.string o) := by rw [← hW1]; simp
  have a2 : W1.cell? ⟨w.heap.size, 2, none⟩ = some (.int .i64 0) := by rw [← hW1]; simp
  have a3 : W1.cell? ⟨w.heap.size, 3, none⟩ = some (.int .i64 0) := by rw [← hW1]; simp
  have a4 : W1.cell? ⟨w.heap.size, 4, none⟩ = some (.string { data := #[] }) := by rw [← hW1]; simp
  rw [hW1]
  have hD := Ext.refl W1
  clear hW1
  go_upto_region 3 with fail
  go_cut [3] (fun t3 wx => ∃ B3, t3 = .pointer (some ⟨B3, 0, none⟩) ∧ wx.heap[B3]? = some (Obj.cells #[.string { data := #[99, 111, 117, 110, 116, 101, 114] }, .bool true, .bool false, .bool false, .int .i64 (-1)] 171 (0, 0)) ∧ Ext W1 wx)
  case first =>
    go_region_held3 (fun W => W.cell? ⟨w.heap.size, 0, none⟩ = some (.int .i64 5) ∧ W.cell? ⟨w.heap.size, 1, none⟩ = some (.string o) ∧ W.cell? ⟨w.heap.size, 2, none⟩ = some (.int .i64 0) ∧ W.cell? ⟨w.heap.size, 3, none⟩ = some (.int .i64 0) ∧ W.cell? ⟨w.heap.size, 4, none⟩ = some (.string { data := #[] }))
      (exact ⟨Ext.cell_some (w := W1) (by repeat (first | with_reducible assumption | with_reducible refine Ext.drew ?_ | with_reducible refine Ext.alloc ?_ _ | with_reducible refine Ext.setCell ?_ (Nat.le_refl _) _ | with_reducible exact Ext.refl _)) a0, Ext.cell_some (w := W1) (by repeat (first | with_reducible assumption | with_reducible refine Ext.drew ?_ | with_reducible refine Ext.alloc ?_ _ | with_reducible refine Ext.setCell ?_ (Nat.le_refl _) _ | with_reducible exact Ext.refl _)) a1, Ext.cell_some (w := W1) (by repeat (first | with_reducible assumption | with_reducible refine Ext.drew ?_ | with_reducible refine Ext.alloc ?_ _ | with_reducible refine Ext.setCell ?_ (Nat.le_refl _) _ | with_reducible exact Ext.refl _)) a2, Ext.cell_some (w := W1) (by repeat (first | with_reducible assumption | with_reducible refine Ext.drew ?_ | with_reducible refine Ext.alloc ?_ _ | with_reducible refine Ext.setCell ?_ (Nat.le_refl _) _ | with_reducible exact Ext.refl _)) a3, Ext.cell_some (w := W1) (by repeat (first | with_reducible assumption | with_reducible refine Ext.drew ?_ | with_reducible refine Ext.alloc ?_ _ | with_reducible refine Ext.setCell ?_ (Nat.le_refl _) _ | with_reducible exact Ext.refl _)) a4⟩)
      (first | (go_at_call 83; refine (uses_any (World.drew (World.alloc W1 _))).mono ?_; rintro e w2 ⟨rfl, hx2⟩; have hD2 := Ext.trans (a := W1) (by repeat (first | with_reducible assumption | with_reducible refine Ext.drew ?_ | with_reducible refine Ext.alloc ?_ _ | with_reducible refine Ext.setCell ?_ (Nat.le_refl _) _ | with_reducible exact Ext.refl _)) hx2; have q0 : w2.cell? ⟨W1.heap.size, 0, none⟩ = some (.string { data := #[] }) := hx2.cell_some (by simp); have q1 : w2.cell? ⟨W1.heap.size, 1, none⟩ = some (.bool false) := hx2.cell_some (by simp); have q2 : w2.cell? ⟨W1.heap.size, 2, none⟩ = some (.bool false) := hx2.cell_some (by simp); have q3 : w2.cell? ⟨W1.heap.size, 3, none⟩ = some (.bool false) := hx2.cell_some (by simp); have q4 : w2.cell? ⟨W1.heap.size, 4, none⟩ = some (.int .i64 0) := hx2.cell_some (by simp); have g0 : w2.frozen? ⟨W1.heap.size, 0, none⟩ = false := (hx2.frozen (by simp)).trans (by simp); have g1 : w2.frozen? ⟨W1.heap.size, 1, none⟩ = false := (hx2.frozen (by simp)).trans (by simp); have g2 : w2.frozen? ⟨W1.heap.size, 2, none⟩ = false := (hx2.frozen (by simp)).trans (by simp); have g3 : w2.frozen? ⟨W1.heap.size, 3, none⟩ = false := (hx2.frozen (by simp)).trans (by simp); have g4 : w2.frozen? ⟨W1.heap.size, 4, none⟩ = false := (hx2.frozen (by simp)).trans (by simp); have hh2 := (hx2.block (b := W1.heap.size) (by simp)).trans (heap_new W1 _); have HH2 := Lib.hid hh2; clear hh2) | (go_at_call 83; refine (uses_any _).mono ?_; rintro e w2 ⟨rfl, hx2⟩; have hD2 := Ext.trans (a := W1) (by repeat (first | with_reducible assumption | with_reducible refine Ext.drew ?_ | with_reducible refine Ext.alloc ?_ _ | with_reducible refine Ext.setCell ?_ (Nat.le_refl _) _ | with_reducible exact Ext.refl _)) hx2))
    all_goals (go_wp2_with fail; go_meet)
    all_goals first | (refine ⟨W1.heap.size, ?_, ?_, ?_⟩; (with_reducible rfl); exact set5 HH2.out _ _ _ _ _; exact (by repeat (first | with_reducible assumption | with_reducible refine Ext.drew ?_ | with_reducible refine Ext.alloc ?_ _ | with_reducible refine Ext.setCell ?_ (Nat.le_refl _) _ | with_reducible exact Ext.refl _))) | (refine ⟨w2.heap.size, ?_, ?_, ?_⟩; (with_reducible rfl); exact heap_new w2 _; exact (by repeat (first | with_reducible assumption | with_reducible refine Ext.drew ?_ | with_reducible refine Ext.alloc ?_ _ | with_reducible refine Ext.setCell ?_ (Nat.le_refl _) _ | with_reducible exact Ext.refl _)))
  case rest =>
    obtain ⟨B3, rfl, hu, hx⟩ := hcut
    have hBc := hB.trans hx
    have u0 := (cells_at hu).1 0 _ rfl
    have u1 := (cells_at hu).1 1 _ rfl
    have u2 := (cells_at hu).1 2 _ rfl
    have u3 := (cells_at hu).1 3 _ rfl
    have u4 := (cells_at hu).1 4 _ rfl
    have m0 := hx.cell_some a0
    have m1 := hx.cell_some a1
    have m2 := hx.cell_some a2
    have m3 := hx.cell_some a3
    have m4 := hx.cell_some a4
    clear hix a0 a1 a2 a3 a4
    have HU := Lib.hid hu
    clear hu
    go_wp2_with (first | (go_at_call 70; refine (HV.out _).mono ?_; rintro e w4 ⟨rfl, hx4⟩; have v0 := hx4.cell_some u0; have v1 := hx4.cell_some u1; have v2 := hx4.cell_some u2; have v3 := hx4.cell_some u3; have v4 := hx4.cell_some u4; have o0 := hx4.cell_some m0; have o1 := hx4.cell_some m1; have o2 := hx4.cell_some m2; have o3 := hx4.cell_some m3; have o4 := hx4.cell_some m4; have hB4 := hBc.trans hx4) | (go_at_call 84; refine (number_any _ _ (by omega) (by omega)).mono ?_; rintro e w' ⟨rfl, rfl⟩))
    all_goals go_ret
    all_goals exact ⟨rfl, hB4⟩
set_option maxHeartbeats 8000000 in
set_option maxRecDepth 100000 in
theorem check_cnt_bad (o : ByteArray) (ho : o.size ≤ 9223372036854775000) (hv : validS o.data.toList = false) (w : World) :
    Calls Tryz.prog 58 #[nmV (cntNm o)] w fun e w' => e = .returned (.int .i64 12) ∧ Ext w w' := by
  have hv2 : ∀ W, Calls Tryz.prog 70 #[.string o] W fun e w' => e = .returned (.bool false) ∧ Ext W w' := fun W => by have := valid_any o ho W; rwa [hv] at this
  have HV := Lib.hid hv2
  clear hv2 hv
  have hix : ∀ W, (Instr.index 172 (.agg usesV) (.int .i64 5)).run Tryz.prog W = .ok (.agg #[.string { data := #[99, 111, 117, 110, 116, 101, 114] }, .bool true, .bool false, .bool false, .int .i64 (-1)]) W := fun _ => by kernel_rfl
  simp only [nmV, cntNm]
  go_enter Tryz.func58, Tryz.ntmps58
  go_wp2_with fail
  obtain ⟨W1, hW1⟩ : ∃ W1, w.alloc (.cells #[.int .i64 5, .string o, .int .i64 0, .int .i64 0, .string { data := #[] }] 78) = W1 := ⟨_, rfl⟩
  have hB : Ext w W1 := by rw [← hW1]; exact (Ext.refl w).alloc _
  have a0 : W1.cell? ⟨w.heap.size, 0, none⟩ = some (.int .i64 5) := by rw [← hW1]; simp
  have a1 : W1.cell? ⟨w.heap.size, 1, none⟩ = some (.string o) := by rw [← hW1]; simp
  have a2 : W1.cell? ⟨w.heap.size, 2, none⟩ = some (.int .i64 0) := by rw [← hW1]; simp
  have a3 : W1.cell? ⟨w.heap.size, 3, none⟩ = some (.int .i64 0) := by rw [← hW1]; simp
  have a4 : W1.cell? ⟨w.heap.size, 4, none⟩ = some (.string { data := #[] }) := by rw [← hW1]; simp
  rw [hW1]
  have hD := Ext.refl W1
  clear hW1
  go_upto_region 3 with fail
  go_cut [3] (fun t3 wx => ∃ B3, t3 = .pointer (some ⟨B3, 0, none⟩) ∧ wx.heap[B3]? = some (Obj.cells #[.string { data := #[99, 111, 117, 110, 116, 101, 114] }, .bool true, .bool false, .bool false, .int .i64 (-1)] 171 (0, 0)) ∧ Ext W1 wx)
  case first =>
    go_region_held3 (fun W => W.cell? ⟨w.heap.size, 0, none⟩ = some (.int .i64 5) ∧ W.cell? ⟨w.heap.size, 1, none⟩ = some (.string o) ∧ W.cell? ⟨w.heap.size, 2, none⟩ = some (.int .i64 0) ∧ W.cell? ⟨w.heap.size, 3, none⟩ = some (.int .i64 0) ∧ W.cell? ⟨w.heap.size, 4, none⟩ = some (.string { data := #[] }))
      (exact ⟨Ext.cell_some (w := W1) (by repeat (first | with_reducible assumption | with_reducible refine Ext.drew ?_ | with_reducible refine Ext.alloc ?_ _ | with_reducible refine Ext.setCell ?_ (Nat.le_refl _) _ | with_reducible exact Ext.refl _)) a0, Ext.cell_some (w := W1) (by repeat (first | with_reducible assumption | with_reducible refine Ext.drew ?_ | with_reducible refine Ext.alloc ?_ _ | with_reducible refine Ext.setCell ?_ (Nat.le_refl _) _ | with_reducible exact Ext.refl _)) a1, Ext.cell_some (w := W1) (by repeat (first | with_reducible assumption | with_reducible refine Ext.drew ?_ | with_reducible refine Ext.alloc ?_ _ | with_reducible refine Ext.setCell ?_ (Nat.le_refl _) _ | with_reducible exact Ext.refl _)) a2, Ext.cell_some (w := W1) (by repeat (first | with_reducible assumption | with_reducible refine Ext.drew ?_ | with_reducible refine Ext.alloc ?_ _ | with_reducible refine Ext.setCell ?_ (Nat.le_refl _) _ | with_reducible exact Ext.refl _)) a3, Ext.cell_some (w := W1) (by repeat (first | with_reducible assumption | with_reducible refine Ext.drew ?_ | with_reducible refine Ext.alloc ?_ _ | with_reducible refine Ext.setCell ?_ (Nat.le_refl _) _ | with_reducible exact Ext.refl _)) a4⟩)
      (first | (go_at_call 83; refine (uses_any (World.drew (World.alloc W1 _))).mono ?_; rintro e w2 ⟨rfl, hx2⟩; have hD2 := Ext.trans (a := W1) (by repeat (first | with_reducible assumption | with_reducible refine Ext.drew ?_ | with_reducible refine Ext.alloc ?_ _ | with_reducible refine Ext.setCell ?_ (Nat.le_refl _) _ | with_reducible exact Ext.refl _)) hx2; have q0 : w2.cell? ⟨W1.heap.size, 0, none⟩ = some (.string { data := #[] }) := hx2.cell_some (by simp); have q1 : w2.cell? ⟨W1.heap.size, 1, none⟩ = some (.bool false) := hx2.cell_some (by simp); have q2 : w2.cell? ⟨W1.heap.size, 2, none⟩ = some (.bool false) := hx2.cell_some (by simp); have q3 : w2.cell? ⟨W1.heap.size, 3, none⟩ = some (.bool false) := hx2.cell_some (by simp); have q4 : w2.cell? ⟨W1.heap.size, 4, none⟩ = some (.int .i64 0) := hx2.cell_some (by simp); have g0 : w2.frozen? ⟨W1.heap.size, 0, none⟩ = false := (hx2.frozen (by simp)).trans (by simp); have g1 : w2.frozen? ⟨W1.heap.size, 1, none⟩ = false := (hx2.frozen (by simp)).trans (by simp); have g2 : w2.frozen? ⟨W1.heap.size, 2, none⟩ = false := (hx2.frozen (by simp)).trans (by simp); have g3 : w2.frozen? ⟨W1.heap.size, 3, none⟩ = false := (hx2.frozen (by simp)).trans (by simp); have g4 : w2.frozen? ⟨W1.heap.size, 4, none⟩ = false := (hx2.frozen (by simp)).trans (by simp); have hh2 := (hx2.block (b := W1.heap.size) (by simp)).trans (heap_new W1 _); have HH2 := Lib.hid hh2; clear hh2) | (go_at_call 83; refine (uses_any _).mono ?_; rintro e w2 ⟨rfl, hx2⟩; have hD2 := Ext.trans (a := W1) (by repeat (first | with_reducible assumption | with_reducible refine Ext.drew ?_ | with_reducible refine Ext.alloc ?_ _ | with_reducible refine Ext.setCell ?_ (Nat.le_refl _) _ | with_reducible exact Ext.refl _)) hx2))
    all_goals (go_wp2_with fail; go_meet)
    all_goals first | (refine ⟨W1.heap.size, ?_, ?_, ?_⟩; (with_reducible rfl); exact set5 HH2.out _ _ _ _ _; exact (by repeat (first | with_reducible assumption | with_reducible refine Ext.drew ?_ | with_reducible refine Ext.alloc ?_ _ | with_reducible refine Ext.setCell ?_ (Nat.le_refl _) _ | with_reducible exact Ext.refl _))) | (refine ⟨w2.heap.size, ?_, ?_, ?_⟩; (with_reducible rfl); exact heap_new w2 _; exact (by repeat (first | with_reducible assumption | with_reducible refine Ext.drew ?_ | with_reducible refine Ext.alloc ?_ _ | with_reducible refine Ext.setCell ?_ (Nat.le_refl _) _ | with_reducible exact Ext.refl _)))
  case rest =>
    obtain ⟨B3, rfl, hu, hx⟩ := hcut
    have hBc := hB.trans hx
    have u0 := (cells_at hu).1 0 _ rfl
    have u1 := (cells_at hu).1 1 _ rfl
    have u2 := (cells_at hu).1 2 _ rfl
    have u3 := (cells_at hu).1 3 _ rfl
    have u4 := (cells_at hu).1 4 _ rfl
    have m0 := hx.cell_some a0
    have m1 := hx.cell_some a1
    have m2 := hx.cell_some a2
    have m3 := hx.cell_some a3
    have m4 := hx.cell_some a4
    clear hix a0 a1 a2 a3 a4
    have HU := Lib.hid hu
    clear hu
    go_wp2_with (first | (go_at_call 70; refine (HV.out _).mono ?_; rintro e w4 ⟨rfl, hx4⟩; have v0 := hx4.cell_some u0; have v1 := hx4.cell_some u1; have v2 := hx4.cell_some u2; have v3 := hx4.cell_some u3; have v4 := hx4.cell_some u4; have o0 := hx4.cell_some m0; have o1 := hx4.cell_some m1; have o2 := hx4.cell_some m2; have o3 := hx4.cell_some m3; have o4 := hx4.cell_some m4; have hB4 := hBc.trans hx4) | (go_at_call 84; refine (number_any _ _ (by omega) (by omega)).mono ?_; rintro e w' ⟨rfl, rfl⟩))
    all_goals go_ret
    all_goals exact ⟨rfl, hB4⟩
end Go.Proofs.YtehmgeodpjmfaaaGreatDoor
