/- output: Ledger: Get. -/
import Derived.Test.YtehmgeodpjmfaaaGreatDoorLeave
namespace Go.Proofs.YtehmgeodpjmfaaaGreatDoor
open Go.RowKit

def outZL : LeftS := ⟨⟨⟨#[]⟩, 0, 0, outZ⟩, 0, 0⟩
set_option maxHeartbeats 4000000 in
set_option maxRecDepth 100000 in
theorem lget_ok (p : Nat) (l : List LeftS) (v : Value) (j : Nat) (hj : j < l.length) (w : World) (h : LAt w p l v) :
    Calls Tryz.prog 32 #[.pointer (some ⟨p, 0, none⟩), .int .i64 j] w fun e w' => e = .returned (.tuple #[leftV l[j], .int .i64 0]) ∧ Ext w w' := by
  have c0 := (cells_at h.1).1 0 _ rfl
  simp only [List.getElem_toArray, List.getElem_cons_zero] at c0
  have hr := Rd.of_owns (enc := encL) (fun _ => rfl) h.2
  obtain ⟨hm, A, c, rfl, hc⟩ := hr
  obtain ⟨b, off, rfl, hb, hcs⟩ := hc (by omega)
  have hy := hcs j hj
  generalize l[j] = x at hy ⊢
  generalize hn : l.length = n at c0 hm
  have hjn : j < n := by omega
  obtain ⟨⟨ow, nu, ti, ⟨ch, tg, tx, us⟩⟩, at_, rn⟩ := x
  have y0 := hy 0 (.string ow) rfl
  have y1 := hy 1 (.int .i64 nu) rfl
  have y2 := hy 2 (.int .i64 ti) rfl
  have y3 := hy 3 (.int .i64 ch) rfl
  have y4 := hy 4 (.string tg) rfl
  have y5 := hy 5 (.string tx) rfl
  have y6 := hy 6 (.int .i64 us) rfl
  have y7 := hy 7 (.int .i64 at_) rfl
  have y8 := hy 8 (.int .i64 rn) rfl
  clear hy hcs hc h hn hj
  simp only [Nat.add_zero] at y0
  simp only [leftV]
  have z : ∀ o, (w.alloc o).cell? ⟨p, 0, none⟩ = some (.slice (some ⟨b, off, none⟩) n c) := fun o => ((Ext.refl w).alloc o).cell_some c0
  have z0 : ∀ o, (w.alloc o).cell? ⟨b, off + j * 9, none⟩ = some (.string ow) := fun o => ((Ext.refl w).alloc o).cell_some y0
  have z1 : ∀ o, (w.alloc o).cell? ⟨b, off + j * 9 + 1, none⟩ = some (.int .i64 nu) := fun o => ((Ext.refl w).alloc o).cell_some y1
  have z2 : ∀ o, (w.alloc o).cell? ⟨b, off + j * 9 + 2, none⟩ = some (.int .i64 ti) := fun o => ((Ext.refl w).alloc o).cell_some y2
  have z3 : ∀ o, (w.alloc o).cell? ⟨b, off + j * 9 + 3, none⟩ = some (.int .i64 ch) := fun o => ((Ext.refl w).alloc o).cell_some y3
  have z4 : ∀ o, (w.alloc o).cell? ⟨b, off + j * 9 + 4, none⟩ = some (.string tg) := fun o => ((Ext.refl w).alloc o).cell_some y4
  have z5 : ∀ o, (w.alloc o).cell? ⟨b, off + j * 9 + 5, none⟩ = some (.string tx) := fun o => ((Ext.refl w).alloc o).cell_some y5
  have z6 : ∀ o, (w.alloc o).cell? ⟨b, off + j * 9 + 6, none⟩ = some (.int .i64 us) := fun o => ((Ext.refl w).alloc o).cell_some y6
  have z7 : ∀ o, (w.alloc o).cell? ⟨b, off + j * 9 + 7, none⟩ = some (.int .i64 at_) := fun o => ((Ext.refl w).alloc o).cell_some y7
  have z8 : ∀ o, (w.alloc o).cell? ⟨b, off + j * 9 + 8, none⟩ = some (.int .i64 rn) := fun o => ((Ext.refl w).alloc o).cell_some y8
  clear y0 y1 y2 y3 y4 y5 y6 y7 y8
  go_enter Tryz.func32, Tryz.ntmps32
  go_wp2_with fail
  refine bodyPost_ret (results_cell_row_tmp rfl _ _ w.heap.size 52 _ (0, 0) _ rfl (heap_new w _) Tryz.underlying52 rfl (by kernel_rfl)) rfl ⟨rfl, (Ext.refl w).alloc _⟩

set_option maxHeartbeats 4000000 in
set_option maxRecDepth 100000 in
theorem lget_bad (p : Nat) (l : List LeftS) (v : Value) (k : Int) (hk : k < 0 ∨ (l.length : Int) ≤ k) (w : World) (h : LAt w p l v) :
    Calls Tryz.prog 32 #[.pointer (some ⟨p, 0, none⟩), .int .i64 k] w fun e w' => e = .returned (.tuple #[leftV outZL, .int .i64 2]) ∧ Ext w w' := by
  have c0 := (cells_at h.1).1 0 _ rfl
  simp only [List.getElem_toArray, List.getElem_cons_zero] at c0
  have hr := Rd.of_owns (enc := encL) (fun _ => rfl) h.2
  obtain ⟨hm, A, c, rfl, hc⟩ := hr
  generalize l.length = n at c0 hm hk
  clear hc h
  simp only [leftV, outZL, outZ]
  have z : ∀ o, (w.alloc o).cell? ⟨p, 0, none⟩ = some (.slice A n c) := fun o => ((Ext.refl w).alloc o).cell_some c0
  rcases (show k < 0 ∨ (¬ k < 0 ∧ (n : Int) ≤ k) by omega) with hk1 | ⟨hk1, hk2⟩
  all_goals
    clear hk
    go_enter Tryz.func32, Tryz.ntmps32
    go_wp2_with fail
    refine bodyPost_ret (results_cell_row_tmp rfl _ _ w.heap.size 52 _ (0, 0) _ rfl (heap_new w _) Tryz.underlying52 rfl (by kernel_rfl)) rfl ⟨rfl, (Ext.refl w).alloc _⟩
end Go.Proofs.YtehmgeodpjmfaaaGreatDoor
