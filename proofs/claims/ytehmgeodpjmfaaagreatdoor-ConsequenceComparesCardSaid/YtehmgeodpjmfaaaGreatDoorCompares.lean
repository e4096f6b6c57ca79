/- law 50: ConsequenceCompares, the walk. -/
import Derived.Deep.RegionHeld3
import Derived.Test.YtehmgeodpjmfaaaGreatDoorKnown2
import Derived.Test.YtehmgeodpjmfaaaGreatDoorRef
namespace Go.Proofs.YtehmgeodpjmfaaaGreatDoor
open Go.RowKit

set_option maxHeartbeats 8000000 in
set_option maxRecDepth 100000 in
theorem compares_any (nv lv : Value) (now left : List ItemS) (w : World) (hn : Rd w 5 encI5 nv now) (hl : Rd w 5 encI5 lv left) (okn : ∀ x ∈ now, ItemOk x) (okl : ∀ x ∈ left, ItemOk x) :
    Calls Tryz.prog 4 #[nv, lv] w fun e w' => e = .returned (.bool true) ∧ Ext w w' := by
  have HB := Lib.hid (build_any nv lv now left w hn hl okn okl)
  clear hn hl okn okl
  have h20 : (now.take 20).length ≤ 20 := List.length_take_le _ _
  have h21 : (left.take 20).length ≤ 20 := List.length_take_le _ _
  have HCM := Lib.hid (fun q p v W hS hL => cmp_built now left q p v W hS hL)
  have HRF := Lib.hid (fun q p v W hS hL => ref_any (stB (now.take 20)) q p (ledB 0 (left.take 20)) v W hS (stB_ok _) (stB_val _) (by have := (stB_size (now.take 20)).1; omega) hL (by rw [ledB_len]; omega) (allL_ok _) (ledB_ok _ _) (allL_nodup _))
  have HCO := Lib.hid (compareL_ok (allL_ok (now.take 20)) (ledB_ok (left.take 20) 0) (by rw [ledB_len]; omega))
  generalize allL (stB (now.take 20)) = all at HCM HCO HRF
  generalize ledB 0 (left.take 20) = L at HB HCM HCO HRF
  generalize compareL all L = C at HCM HCO HRF
  generalize stB (now.take 20) = t at HB HCM HRF
  clear h20 h21
  go_enter Tryz.func4, Tryz.ntmps4
  go_wp2_with fail
  (with_reducible refine HB.out.mono ?_)
  rintro e w1 ⟨q, p, v, rfl, hS1, hL1, _, hx1⟩
  have Z1 := Lib.hid (And.intro hS1 (And.intro hL1 hx1))
  clear hS1 hL1 hx1 HB
  go_wp2_with fail
  (with_reducible refine (known_any _).mono ?_)
  rintro e w2 ⟨rfl, hx2⟩
  have Z2 := Lib.hid (And.intro (IsS.ext hx2 Z1.out.1) (And.intro (Z1.out.2.1.ext hx2) (Z1.out.2.2.trans hx2)))
  clear hx2 Z1
  go_wp2_with fail
  (with_reducible refine (HCM.out _ _ _ _ Z2.out.1 Z2.out.2.1).mono ?_)
  rintro e w3 ⟨u, rfl, hr, hx3⟩
  obtain ⟨hm3, A, cc, rfl, hcs⟩ := hr
  have Z3 := Lib.hid (And.intro (IsS.ext hx3 Z2.out.1) (And.intro (Z2.out.2.1.ext hx3) (Z2.out.2.2.trans hx3)))
  have HC := Lib.hid hcs
  clear hx3 Z2 HCM hcs
  go_wp2_with fail
  (with_reducible refine (HRF.out _ _ _ _ Z3.out.1 Z3.out.2.1).mono ?_)
  rintro e w4 ⟨u4, rfl, hr, hx4⟩
  obtain ⟨_, A4, c4, rfl, hcs⟩ := hr
  have HX4 := Lib.hid hx4
  have HC4 := Lib.hid hcs
  clear hx4 HRF hcs
  go_wp2_with fail
  go_loopg [11] C.length (fun g d wx => ∃ j : Nat, d = .int .i64 j ∧ j + g = C.length ∧ Aside (Ext w4 wx))
  case atStart => exact ⟨0, rfl, by omega, Ext.refl _⟩
  case round =>
    obtain ⟨j, rfl, hg, hA⟩ := hrel
    by_cases hlt : j < C.length
    · obtain ⟨b, off, rfl, hb, hcell⟩ := HC.out (by omega)
      obtain ⟨b4, off4, rfl, hb4, hcell4⟩ := HC4.out (by omega)
      have hy := hcell j hlt
      have hz := hcell4 j hlt
      have hco := HCO.out _ (List.getElem_mem hlt)
      generalize C[j] = c at hy hz hco
      have he := fun W => eql_cons c c hco hco W
      have HEQ := Lib.hid (fun W => equal_any c c hco hco W)
      rw [decide_eq_true rfl] at he HEQ
      obtain ⟨kk, ko, kn, kp, ⟨oc, og, ox, ou⟩, ka, ⟨nc, ng, nx, nw⟩, kt⟩ := c
      simp only [consV] at he HEQ
      have hE := HX4.out.trans hA.out
      have y0 := hE.cell_some (hy 0 (.int .i64 kk) rfl)
      have y1 := hE.cell_some (hy 1 (.string ko) rfl)
      have y2 := hE.cell_some (hy 2 (.int .i64 kn) rfl)
      have y3 := hE.cell_some (hy 3 (.int .i64 kp) rfl)
      have y4 := hE.cell_some (hy 4 (.int .i64 oc) rfl)
      have y5 := hE.cell_some (hy 5 (.string og) rfl)
      have y6 := hE.cell_some (hy 6 (.string ox) rfl)
      have y7 := hE.cell_some (hy 7 (.int .i64 ou) rfl)
      have y8 := hE.cell_some (hy 8 (.int .i64 ka) rfl)
      have y9 := hE.cell_some (hy 9 (.int .i64 nc) rfl)
      have y10 := hE.cell_some (hy 10 (.string ng) rfl)
      have y11 := hE.cell_some (hy 11 (.string nx) rfl)
      have y12 := hE.cell_some (hy 12 (.int .i64 nw) rfl)
      have y13 := hE.cell_some (hy 13 (.int .i64 kt) rfl)
      have z0 := hA.out.cell_some (hz 0 (.int .i64 kk) rfl)
      have z1 := hA.out.cell_some (hz 1 (.string ko) rfl)
      have z2 := hA.out.cell_some (hz 2 (.int .i64 kn) rfl)
      have z3 := hA.out.cell_some (hz 3 (.int .i64 kp) rfl)
      have z4 := hA.out.cell_some (hz 4 (.int .i64 oc) rfl)
      have z5 := hA.out.cell_some (hz 5 (.string og) rfl)
      have z6 := hA.out.cell_some (hz 6 (.string ox) rfl)
      have z7 := hA.out.cell_some (hz 7 (.int .i64 ou) rfl)
      have z8 := hA.out.cell_some (hz 8 (.int .i64 ka) rfl)
      have z9 := hA.out.cell_some (hz 9 (.int .i64 nc) rfl)
      have z10 := hA.out.cell_some (hz 10 (.string ng) rfl)
      have z11 := hA.out.cell_some (hz 11 (.string nx) rfl)
      have z12 := hA.out.cell_some (hz 12 (.int .i64 nw) rfl)
      have z13 := hA.out.cell_some (hz 13 (.int .i64 kt) rfl)
      simp only [Nat.add_zero] at y0 z0
      have HCW : ∀ (p : Later wr), True := fun _ => trivial
      have hq : ∀ (a : Addr) (v : Value), wr.cell? a = some v → ∀ p : Later wr, p.W.cell? a = some v := fun a v h p => later_cell h p
      have y0 := hq _ _ y0
      have y1 := hq _ _ y1
      have y2 := hq _ _ y2
      have y3 := hq _ _ y3
      have y4 := hq _ _ y4
      have y5 := hq _ _ y5
      have y6 := hq _ _ y6
      have y7 := hq _ _ y7
      have y8 := hq _ _ y8
      have y9 := hq _ _ y9
      have y10 := hq _ _ y10
      have y11 := hq _ _ y11
      have y12 := hq _ _ y12
      have y13 := hq _ _ y13
      have z0 := hq _ _ z0
      have z1 := hq _ _ z1
      have z2 := hq _ _ z2
      have z3 := hq _ _ z3
      have z4 := hq _ _ z4
      have z5 := hq _ _ z5
      have z6 := hq _ _ z6
      have z7 := hq _ _ z7
      have z8 := hq _ _ z8
      have z9 := hq _ _ z9
      have z10 := hq _ _ z10
      have z11 := hq _ _ z11
      have z12 := hq _ _ z12
      have z13 := hq _ _ z13
      clear hq HCW hy hz hcell hcell4 hE hco
      go_wp2_with fail
      refine wp_region_later (by kernel_rfl) (by kernel_rfl) ?_
      repeat (go_big_quiet_step (first | exact rfl | exact later_of (HEQ.out _)))
      refine wpQuiet_nil ?_
      intro w7 hw7
      obtain ⟨⟨wq, hx⟩, hq⟩ := hw7
      subst hq
      have HX := Lib.hid (hA.out.trans hx)
      clear hx y0 y1 y2 y3 y4 y5 y6 y7 y8 y9 y10 y11 y12 y13 z0 z1 z2 z3 z4 z5 z6 z7 z8 z9 z10 z11 z12 z13
      go_wp2_with fail
      go_roundg (C.length - (j + 1))
      case measure => omega
      case rel => exact ⟨j + 1, by go_num, by omega, HX.out⟩
    · obtain rfl : j = C.length := by omega
      go_wp2_with fail
      go_ret
      exact ⟨rfl, Z3.out.2.2.trans (HX4.out.trans hA.out)⟩
end Go.Proofs.YtehmgeodpjmfaaaGreatDoor
