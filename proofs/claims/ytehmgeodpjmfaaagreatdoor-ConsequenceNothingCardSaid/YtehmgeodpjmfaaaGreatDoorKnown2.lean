/- law 50: known's walk. -/
import Derived.Test.YtehmgeodpjmfaaaGreatDoorKnown
namespace Go.Proofs.YtehmgeodpjmfaaaGreatDoor
open Go.RowKit

set_option maxHeartbeats 4000000 in
set_option maxRecDepth 100000 in
theorem known_any (w : World) : Calls Tryz.prog 11 #[] w fun e w' => e = .returned (.bool true) ∧ Ext w w' := by
  have hB : ∀ W, W = ((w.alloc (.cells (encI5 kx).toArray 84)).alloc (.cells (encI5 ky).toArray 84)) →
      Calls Tryz.prog 10 #[.slice (some ⟨w.heap.size, 0, none⟩) 1 1, .slice (some ⟨w.heap.size + 1, 0, none⟩) 1 1] W fun e w' => ∃ q p v, e = .returned (.tuple #[.pointer q, .pointer (some ⟨p, 0, none⟩), .bool true]) ∧ IsS w' q (stB ([kx].take 20)) ∧ LAt w' p (ledB 0 ([ky].take 20)) v ∧ W.heap.size ≤ p ∧ Ext W w' := fun W hW => by
    subst hW
    refine build_any _ _ [kx] [ky] _ ((item_one w kx _ rfl).ext ((Ext.refl _).alloc _)) ?_ (fun x hx => ?_) (fun x hx => ?_)
    · have := item_one (w.alloc (.cells (encI5 kx).toArray 84)) ky _ rfl
      rwa [show (w.alloc (.cells (encI5 kx).toArray 84)).heap.size = w.heap.size + 1 by simp] at this
    · obtain rfl : x = kx := by simpa using hx
      unfold ItemOk kx; decide
    · obtain rfl : x = ky := by simpa using hx
      unfold ItemOk ky; decide
  have HB := Lib.hid (hB ((w.alloc (.cells #[.int .u8 1, .int .u8 0, .int .u8 0, .int .u8 0, .string ⟨#[120]⟩] 84)).alloc (.cells #[.int .u8 1, .int .u8 0, .int .u8 0, .int .u8 0, .string ⟨#[121]⟩] 84)) rfl)
  clear hB
  go_enter Tryz.func11, Tryz.ntmps11
  go_wp2_with fail
  (with_reducible refine HB.out.mono ?_)
  rintro e w1 ⟨q, p, v, rfl, hS1, hL1, _, hx1⟩
  have HC := Lib.hid (cmp_built [kx] [ky] q p v w1 hS1 hL1)
  have HX1 := Lib.hid hx1
  clear hS1 hL1 hx1
  go_wp2_with fail
  (with_reducible refine HC.out.mono ?_)
  rintro e w2 ⟨u, rfl, hr2, hx2⟩
  have hr3 : Rd w2 14 encC u [⟨3, nm12, 0, 0, itemOut ky, 0, itemOut kx, 0⟩] := by rw [← known_cmp]; exact hr2
  obtain ⟨_, A, c, rfl, hcs⟩ := hr3
  obtain ⟨b, off, rfl, hb, hc⟩ := hcs (by simp)
  have hy := hc 0 (by simp)
  have y0 := hy 0 (.int .i64 3) rfl
  have y3 := hy 3 (.int .i64 0) rfl
  have y6 := hy 6 (.string (cut20 ky.text)) rfl
  have y11 := hy 11 (.string (cut20 kx.text)) rfl
  rw [show cut20 ky.text = ⟨#[121]⟩ by decide +kernel] at y6
  rw [show cut20 kx.text = ⟨#[120]⟩ by decide +kernel] at y11
  simp only [Nat.zero_mul, Nat.add_zero] at y0 y3 y6 y11
  have HX2 := Lib.hid (HX1.out.trans hx2)
  clear hr2 hcs hc hy hx2
  go_wp2_with fail
  go_ret
  exact ⟨rfl, (((Ext.refl w).alloc _).alloc _).trans HX2.out⟩
end Go.Proofs.YtehmgeodpjmfaaaGreatDoor
