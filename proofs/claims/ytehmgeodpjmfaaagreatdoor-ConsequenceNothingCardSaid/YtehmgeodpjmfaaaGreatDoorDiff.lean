/- consequence: Differences, Count. -/
import Derived.Deep.LoopGhost
import Derived.Test.YtehmgeodpjmfaaaGreatDoorEqual
import Derived.Test.YtehmgeodpjmfaaaGreatDoorCompare
namespace Go.Proofs.YtehmgeodpjmfaaaGreatDoor
open Go.RowKit

def diffL (l : List ConsS) : List ConsS := l.filter (fun c => decide (c.kind ≠ 1))
set_option maxHeartbeats 8000000 in
set_option maxRecDepth 100000 in
theorem diff_any (v : Value) (l : List ConsS) (w : World) (h : Rd w 14 encC v l) (hl : l.length ≤ 2000000) :
    Calls Tryz.prog 20 #[v] w fun e w' => ∃ u, e = .returned u ∧ Rd w' 14 encC u (diffL l) ∧ Ext w w' := by
  obtain ⟨i0, hi, hz0, hz1, hz2⟩ := info_parts info_cons
  obtain ⟨hm, A, c, rfl, hcs⟩ := h
  have HC := Lib.hid hcs
  have HE : Hid (diffL l = l.filter (fun c => decide (c.kind ≠ 1))) := Lib.hid rfl
  generalize diffL l = D at HE ⊢
  clear hcs
  go_enter Tryz.func20, Tryz.ntmps20
  go_wp2_with fail
  go_loopg [3, 8] l.length (fun g a d wx => ∃ (j : Nat) (u : Value), d = .int .i64 j ∧ a = u ∧ j + g = l.length ∧ Aside (wx.ownsRow w.heap.size 37 14 u ((l.take j).filter (fun c => decide (c.kind ≠ 1))).length (((l.take j).filter (fun c => decide (c.kind ≠ 1))).flatMap encC) ∧ Ext w wx))
  case atStart => exact ⟨0, _, rfl, rfl, by omega, by (show World.ownsRow _ _ _ _ _ _ _ ∧ _); exact ⟨World.ownsRow_nil _ _ _ _, Ext.refl _⟩⟩
  case round =>
    obtain ⟨j, u, rfl, hu, hg, hA⟩ := hrel
    have hu' := hu.symm
    subst hu'
    clear hu
    by_cases hlt : j < l.length
    · obtain ⟨b, off, rfl, hb, hcell⟩ := HC.out (by omega)
      have hy := hcell j hlt
      have hT := Lib.hid (filter_take (fun c : ConsS => decide (c.kind ≠ 1)) l j hlt)
      generalize l[j] = x at hy hT
      obtain ⟨kk, ko, kn, kp, ⟨oc, og, ox, ou⟩, ka, ⟨nc, ng, nx, nw⟩, kt⟩ := x
      have y0 := hA.out.2.cell_some (hy 0 (.int .i64 kk) rfl)
      have y1 := hA.out.2.cell_some (hy 1 (.string ko) rfl)
      have y2 := hA.out.2.cell_some (hy 2 (.int .i64 kn) rfl)
      have y3 := hA.out.2.cell_some (hy 3 (.int .i64 kp) rfl)
      have y4 := hA.out.2.cell_some (hy 4 (.int .i64 oc) rfl)
      have y5 := hA.out.2.cell_some (hy 5 (.string og) rfl)
      have y6 := hA.out.2.cell_some (hy 6 (.string ox) rfl)
      have y7 := hA.out.2.cell_some (hy 7 (.int .i64 ou) rfl)
      have y8 := hA.out.2.cell_some (hy 8 (.int .i64 ka) rfl)
      have y9 := hA.out.2.cell_some (hy 9 (.int .i64 nc) rfl)
      have y10 := hA.out.2.cell_some (hy 10 (.string ng) rfl)
      have y11 := hA.out.2.cell_some (hy 11 (.string nx) rfl)
      have y12 := hA.out.2.cell_some (hy 12 (.int .i64 nw) rfl)
      have y13 := hA.out.2.cell_some (hy 13 (.int .i64 kt) rfl)
      simp only [Nat.add_zero] at y0
      have hx1 : Ext wr (wr.alloc (.cells #[.int .i64 kk, .string ko, .int .i64 kn, .int .i64 kp, .int .i64 oc, .string og, .string ox, .int .i64 ou, .int .i64 ka, .int .i64 nc, .string ng, .string nx, .int .i64 nw, .int .i64 kt] 37)) := (Ext.refl wr).alloc _
      have HX1 := Lib.hid hx1
      have hle : ((l.take j).filter (fun c : ConsS => decide (c.kind ≠ 1))).length ≤ 2000000 := by
        refine Nat.le_trans (List.length_filter_le _ _) ?_
        rw [List.length_take]; omega
      have hws := hA.out.2.size
      clear hcell hy hx1
      by_cases hk : kk = 1
      · have hk' : (kk != 1) = false := by simpa using hk
        have HK := Lib.hid hk
        clear hk
        go_wp2_with fail
        go_roundg (l.length - (j + 1))
        case measure => omega
        case rel =>
          refine ⟨j + 1, u, by go_num, rfl, by omega, ?_, hA.out.2.trans HX1.out⟩
          rw [hT.out, if_neg (by simpa using HK.out)]
          exact owns_ext hA.out.1 HX1.out
      · have hk' : (kk != 1) = true := by simpa using hk
        go_wp2_with (at_builtin; (refine wpList_append_own_at _ rfl _ _ 28 rfl w.heap.size 37 i0 _ 14 152 Tryz.underlying28 hi hz0 hz1 hz2 rfl (by decide) u _ _ rfl (owns_ext hA.out.1 (HX1.out.alloc _)) ⟨wr.heap.size + 1, 0, none⟩ 1 1 (encC ⟨kk, ko, kn, kp, ⟨oc, og, ox, ou⟩, ka, ⟨nc, ng, nx, nw⟩, kt⟩) rfl (by rfl) (news_cons _ _ (by simp) ⟨kk, ko, kn, kp, ⟨oc, og, ox, ou⟩, ka, ⟨nc, ng, nx, nw⟩, kt⟩ _ rfl) (by simp [encC, Value.oneCell']) (by unfold maxLen; omega) (by omega) (by simp; omega) ?_; intro u'' w4 hown' hgrow _ _; have HO := Lib.hid (And.intro hown' hgrow); clear hown' hgrow))
        go_roundg (l.length - (j + 1))
        case measure => omega
        case rel =>
          have hx := HX1.out.alloc (.cells (encC ⟨kk, ko, kn, kp, ⟨oc, og, ox, ou⟩, ka, ⟨nc, ng, nx, nw⟩, kt⟩).toArray 37)
          refine ⟨j + 1, u'', by go_num, rfl, by omega, ?_, ext_owns (owns_ext hA.out.1 hx) (hA.out.2.trans hx) (Nat.le_refl _) HO.out.2⟩
          rw [hT.out, if_pos (by simpa using hk)]
          simpa using HO.out.1
    · obtain rfl : j = l.length := by omega
      go_wp2_with fail
      go_ret
      refine ⟨_, rfl, ?_, hA.out.2⟩
      have h1 := hA.out.1
      rw [List.take_length] at h1
      rw [HE.out]
      exact Rd.of_owns (enc := encC) (fun _ => rfl) h1
end Go.Proofs.YtehmgeodpjmfaaaGreatDoor
