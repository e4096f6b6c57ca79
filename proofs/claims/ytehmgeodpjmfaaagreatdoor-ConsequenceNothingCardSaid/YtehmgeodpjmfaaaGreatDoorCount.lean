/- consequence: Count. -/
import Derived.Test.YtehmgeodpjmfaaaGreatDoorDiff
namespace Go.Proofs.YtehmgeodpjmfaaaGreatDoor
open Go.RowKit

/-- The five counts. -/
structure C5 where
  a : Nat
  b : Nat
  c : Nat
  d : Nat
  e : Nat
  deriving DecidableEq
def c5V (x : C5) : Value := .agg #[.int .i64 x.a, .int .i64 x.b, .int .i64 x.c, .int .i64 x.d, .int .i64 x.e]
def bumpK (x : C5) (k : Int) : C5 := if k = 1 then { x with b := x.b + 1 } else if k = 2 then { x with c := x.c + 1 } else if k = 3 then { x with d := x.d + 1 } else if k = 4 then { x with e := x.e + 1 } else { x with a := x.a + 1 }
def countL (l : List ConsS) : C5 := l.foldl (fun x c => bumpK x c.kind) ⟨0, 0, 0, 0, 0⟩
theorem countL_snoc (l : List ConsS) (c : ConsS) : countL (l ++ [c]) = bumpK (countL l) c.kind := by unfold countL; rw [List.foldl_append]; rfl
theorem bumpK_sum (x : C5) (k : Int) : (bumpK x k).a + (bumpK x k).b + (bumpK x k).c + (bumpK x k).d + (bumpK x k).e = x.a + x.b + x.c + x.d + x.e + 1 := by
  unfold bumpK
  split
  · simp only; omega
  · split
    · simp only; omega
    · split
      · simp only; omega
      · split
        · simp only; omega
        · simp only; omega
theorem countL_sum (l : List ConsS) : (countL l).a + (countL l).b + (countL l).c + (countL l).d + (countL l).e = l.length := by
  rw [← List.reverse_reverse l]
  induction l.reverse with
  | nil => rfl
  | cons x m ih => rw [List.reverse_cons, countL_snoc, bumpK_sum, ih]; simp

set_option maxHeartbeats 8000000 in
set_option maxRecDepth 100000 in
theorem count_any (v : Value) (l : List ConsS) (w : World) (h : Rd w 14 encC v l) (hl : l.length ≤ 2000000) :
    Calls Tryz.prog 19 #[v] w fun e w' => e = .returned (c5V (countL l)) ∧ Ext w w' := by
  obtain ⟨hm, A, c, rfl, hcs⟩ := h
  have HC := Lib.hid hcs
  have HE : Hid (countL l = countL (l.take l.length)) := Lib.hid (by rw [List.take_length])
  clear hcs
  simp only [c5V]
  go_enter Tryz.func19, Tryz.ntmps19
  go_wp2_with fail
  have hB0 : ((w.alloc (.cells #[.int .i64 0, .int .i64 0, .int .i64 0, .int .i64 0, .int .i64 0] 53)).alloc (.cells #[.int .i64 0, .int .i64 0, .int .i64 0, .int .i64 0, .int .i64 0] 53)).heap[w.heap.size + 1]? = some (.cells #[.int .i64 0, .int .i64 0, .int .i64 0, .int .i64 0, .int .i64 0] 53 (0, 0)) := by
    have := heap_new (w.alloc (.cells #[.int .i64 0, .int .i64 0, .int .i64 0, .int .i64 0, .int .i64 0] 53)) (.cells #[.int .i64 0, .int .i64 0, .int .i64 0, .int .i64 0, .int .i64 0] 53)
    rwa [show (w.alloc (.cells #[.int .i64 0, .int .i64 0, .int .i64 0, .int .i64 0, .int .i64 0] 53)).heap.size = w.heap.size + 1 by simp] at this
  have HB0 := Lib.hid hB0
  clear hB0
  go_loopg [8] l.length (fun g a wx => ∃ (j : Nat) (x : C5), a = .int .i64 j ∧ j + g = l.length ∧ Aside (wx.heap[w.heap.size + 1]? = some (.cells #[.int .i64 x.a, .int .i64 x.b, .int .i64 x.c, .int .i64 x.d, .int .i64 x.e] 53 (0, 0)) ∧ x = countL (l.take j) ∧ wx.heap[w.heap.size]? = some (.cells #[.int .i64 0, .int .i64 0, .int .i64 0, .int .i64 0, .int .i64 0] 53 (0, 0)) ∧ Ext w wx))
  case atStart => exact ⟨0, ⟨0, 0, 0, 0, 0⟩, rfl, by omega, HB0.out, rfl, (Below.heap_alloc _ _ _ (by simp)).trans (heap_new w _), ((Ext.refl w).alloc _).alloc _⟩
  case round =>
    obtain ⟨j, x, rfl, hg, hA⟩ := hrel
    have hb5 := hA.out.1
    have d0 := (cells_at hb5).1 0 _ rfl
    have d1 := (cells_at hb5).1 1 _ rfl
    have d2 := (cells_at hb5).1 2 _ rfl
    have d3 := (cells_at hb5).1 3 _ rfl
    have d4 := (cells_at hb5).1 4 _ rfl
    have f0 := (cells_at hb5).2 0
    have f1 := (cells_at hb5).2 1
    have f2 := (cells_at hb5).2 2
    have f3 := (cells_at hb5).2 3
    have f4 := (cells_at hb5).2 4
    simp only [List.getElem_toArray, List.getElem_cons_zero, List.getElem_cons_succ] at d0 d1 d2 d3 d4
    have hsum := countL_sum (l.take j)
    rw [← hA.out.2.1, List.length_take] at hsum
    have hsm : ∀ a : Nat, a ≤ l.length → IntKind.i64.wrap ((a : Int) + 1) = (a : Int) + 1 := fun a ha => IntWalk.i64_in _ (by omega)
    obtain ⟨xa, xb, xc, xd, xe⟩ := x
    simp only at d0 d1 d2 d3 d4 hsum
    have sa := hsm xa (by omega)
    have sb := hsm xb (by omega)
    have sc := hsm xc (by omega)
    have sd := hsm xd (by omega)
    have se := hsm xe (by omega)
    clear hsm hb5 hsum
    by_cases hlt : j < l.length
    · obtain ⟨b, off, rfl, hb, hcell⟩ := HC.out (by omega)
      have hy := hcell j hlt
      have hT := Lib.hid (take_snoc l j hlt)
      generalize l[j] = y at hy hT
      obtain ⟨kk, ko, kn, kp, ⟨oc, og, ox, ou⟩, ka, ⟨nc, ng, nx, nw⟩, kt⟩ := y
      have y0 := hA.out.2.2.2.cell_some (hy 0 (.int .i64 kk) rfl)
      have y1 := hA.out.2.2.2.cell_some (hy 1 (.string ko) rfl)
      have y2 := hA.out.2.2.2.cell_some (hy 2 (.int .i64 kn) rfl)
      have y3 := hA.out.2.2.2.cell_some (hy 3 (.int .i64 kp) rfl)
      have y4 := hA.out.2.2.2.cell_some (hy 4 (.int .i64 oc) rfl)
      have y5 := hA.out.2.2.2.cell_some (hy 5 (.string og) rfl)
      have y6 := hA.out.2.2.2.cell_some (hy 6 (.string ox) rfl)
      have y7 := hA.out.2.2.2.cell_some (hy 7 (.int .i64 ou) rfl)
      have y8 := hA.out.2.2.2.cell_some (hy 8 (.int .i64 ka) rfl)
      have y9 := hA.out.2.2.2.cell_some (hy 9 (.int .i64 nc) rfl)
      have y10 := hA.out.2.2.2.cell_some (hy 10 (.string ng) rfl)
      have y11 := hA.out.2.2.2.cell_some (hy 11 (.string nx) rfl)
      have y12 := hA.out.2.2.2.cell_some (hy 12 (.int .i64 nw) rfl)
      have y13 := hA.out.2.2.2.cell_some (hy 13 (.int .i64 kt) rfl)
      simp only [Nat.add_zero] at y0
      have hx1 : Ext wr (wr.alloc (.cells #[.int .i64 kk, .string ko, .int .i64 kn, .int .i64 kp, .int .i64 oc, .string og, .string ox, .int .i64 ou, .int .i64 ka, .int .i64 nc, .string ng, .string nx, .int .i64 nw, .int .i64 kt] 37)) := (Ext.refl wr).alloc _
      have e0 := hx1.cell_some d0
      have e1 := hx1.cell_some d1
      have e2 := hx1.cell_some d2
      have e3 := hx1.cell_some d3
      have e4 := hx1.cell_some d4
      have g0 := (hx1.frozen (p := ⟨w.heap.size + 1, 0, none⟩) (World.block_lt_of_cell? _ _ d0)).trans f0
      have g1 := (hx1.frozen (p := ⟨w.heap.size + 1, 1, none⟩) (World.block_lt_of_cell? _ _ d1)).trans f1
      have g2 := (hx1.frozen (p := ⟨w.heap.size + 1, 2, none⟩) (World.block_lt_of_cell? _ _ d2)).trans f2
      have g3 := (hx1.frozen (p := ⟨w.heap.size + 1, 3, none⟩) (World.block_lt_of_cell? _ _ d3)).trans f3
      have g4 := (hx1.frozen (p := ⟨w.heap.size + 1, 4, none⟩) (World.block_lt_of_cell? _ _ d4)).trans f4
      have hbx := (hx1.block (Array.getElem?_eq_some_iff.1 hA.out.1).1).trans hA.out.1
      have hb0 := (hx1.block (Array.getElem?_eq_some_iff.1 hA.out.2.2.1).1).trans hA.out.2.2.1
      have hxe := hA.out.2.2.2.trans hx1
      have HZ := Lib.hid (And.intro hbx (And.intro hb0 hxe))
      have HX := Lib.hid hA.out.2.1
      have hws := hA.out.2.2.2.size
      clear hcell hy hx1 d0 d1 d2 d3 d4 f0 f1 f2 f3 f4 hbx hb0 hxe hA
      rcases (show kk = 1 ∨ kk = 2 ∨ kk = 3 ∨ kk = 4 ∨ kk < 1 ∨ (¬ kk < 1 ∧ 4 < kk) by omega) with hk | hk | hk | hk | hk | ⟨hk, hk2⟩
      · subst hk
        go_wp2_with fail
        go_roundg (l.length - (j + 1))
        case measure => omega
        case rel =>
          refine ⟨j + 1, ⟨xa, xb + 1, xc, xd, xe⟩, by go_num, by omega, heap_setCell_at HZ.out.1 _, ?_, (Below.heap_setCell _ _ _ _ (by simp)).trans HZ.out.2.1, HZ.out.2.2.setCell (by simp) _⟩
          rw [hT.out, countL_snoc, ← HX.out]
          simp [bumpK]
      · subst hk
        go_wp2_with fail
        go_roundg (l.length - (j + 1))
        case measure => omega
        case rel =>
          refine ⟨j + 1, ⟨xa, xb, xc + 1, xd, xe⟩, by go_num, by omega, heap_setCell_at HZ.out.1 _, ?_, (Below.heap_setCell _ _ _ _ (by simp)).trans HZ.out.2.1, HZ.out.2.2.setCell (by simp) _⟩
          rw [hT.out, countL_snoc, ← HX.out]
          simp [bumpK]
      · subst hk
        go_wp2_with fail
        go_roundg (l.length - (j + 1))
        case measure => omega
        case rel =>
          refine ⟨j + 1, ⟨xa, xb, xc, xd + 1, xe⟩, by go_num, by omega, heap_setCell_at HZ.out.1 _, ?_, (Below.heap_setCell _ _ _ _ (by simp)).trans HZ.out.2.1, HZ.out.2.2.setCell (by simp) _⟩
          rw [hT.out, countL_snoc, ← HX.out]
          simp [bumpK]
      · subst hk
        go_wp2_with fail
        go_roundg (l.length - (j + 1))
        case measure => omega
        case rel =>
          refine ⟨j + 1, ⟨xa, xb, xc, xd, xe + 1⟩, by go_num, by omega, heap_setCell_at HZ.out.1 _, ?_, (Below.heap_setCell _ _ _ _ (by simp)).trans HZ.out.2.1, HZ.out.2.2.setCell (by simp) _⟩
          rw [hT.out, countL_snoc, ← HX.out]
          simp [bumpK]
      · have n1 : kk ≠ 1 := by omega
        have n2 : kk ≠ 2 := by omega
        have n3 : kk ≠ 3 := by omega
        have n4 : kk ≠ 4 := by omega
        have HN := Lib.hid (And.intro n1 (And.intro n2 (And.intro n3 n4)))
        clear n1 n2 n3 n4
        go_wp2_with fail
        go_roundg (l.length - (j + 1))
        case measure => omega
        case rel =>
          refine ⟨j + 1, ⟨xa + 1, xb, xc, xd, xe⟩, by go_num, by omega, heap_setCell_at HZ.out.1 _, ?_, (Below.heap_setCell _ _ _ _ (by simp)).trans HZ.out.2.1, HZ.out.2.2.setCell (by simp) _⟩
          rw [hT.out, countL_snoc, ← HX.out]
          simp [bumpK, HN.out]
      · have n1 : kk ≠ 1 := by omega
        have n2 : kk ≠ 2 := by omega
        have n3 : kk ≠ 3 := by omega
        have n4 : kk ≠ 4 := by omega
        have HN := Lib.hid (And.intro n1 (And.intro n2 (And.intro n3 n4)))
        clear n1 n2 n3 n4
        go_wp2_with fail
        go_roundg (l.length - (j + 1))
        case measure => omega
        case rel =>
          refine ⟨j + 1, ⟨xa + 1, xb, xc, xd, xe⟩, by go_num, by omega, heap_setCell_at HZ.out.1 _, ?_, (Below.heap_setCell _ _ _ _ (by simp)).trans HZ.out.2.1, HZ.out.2.2.setCell (by simp) _⟩
          rw [hT.out, countL_snoc, ← HX.out]
          simp [bumpK, HN.out]
    · obtain rfl : j = l.length := by omega
      have HX := Lib.hid hA.out.2.1
      have HZ := Lib.hid hA.out.2.2
      have r0 := (cells_at HZ.out.1).1 0 _ rfl
      have r1 := (cells_at HZ.out.1).1 1 _ rfl
      have r2 := (cells_at HZ.out.1).1 2 _ rfl
      have r3 := (cells_at HZ.out.1).1 3 _ rfl
      have r4 := (cells_at HZ.out.1).1 4 _ rfl
      have k0 := (cells_at HZ.out.1).2 0
      have k1 := (cells_at HZ.out.1).2 1
      have k2 := (cells_at HZ.out.1).2 2
      have k3 := (cells_at HZ.out.1).2 3
      have k4 := (cells_at HZ.out.1).2 4
      simp only [List.getElem_toArray, List.getElem_cons_zero, List.getElem_cons_succ] at r0 r1 r2 r3 r4
      clear hA sa sb sc sd se
      go_wp2_with fail
      refine bodyPost_ret (results_cell_row rfl _ _ w.heap.size 53 _ (0, 0) _ rfl (set5 HZ.out.1 _ _ _ _ _) Tryz.underlying53 rfl (by kernel_rfl)) rfl ⟨?_, ?_⟩
      · rw [HE.out, ← HX.out]
      · exact ((((HZ.out.2.setCell (Nat.le_refl _) _).setCell (Nat.le_refl _) _).setCell (Nat.le_refl _) _).setCell (Nat.le_refl _) _).setCell (Nat.le_refl _) _
end Go.Proofs.YtehmgeodpjmfaaaGreatDoor
