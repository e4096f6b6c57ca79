/- law 50: ConsequenceEquals, the walk where nothing is changed. -/
import Derived.Deep.DeepCutAuto
import Derived.Deep.CutBlock
import Derived.BigQuiet
import Derived.Test.YtehmgeodpjmfaaaGreatDoorEqualsPure
namespace Go.Proofs.YtehmgeodpjmfaaaGreatDoor
open Go.RowKit

set_option maxHeartbeats 8000000 in
set_option maxRecDepth 100000 in
theorem equals_zero (a b : ConsS) (k : Nat) (w : World) (ha : ConsOk a) (hb : ConsOk b) (hz : k % 9 = 0) (h1 : a.own.size ≤ 140737488351232) (h2 : a.old.text.size ≤ 140737488351232) :
    Calls Tryz.prog 5 #[consV a, consV b, .int .u8 k] w fun e w' => e = .returned (.bool true) ∧ Ext w w' := by
  have HE := Lib.hid (fun (x y : ConsS) (hx : ConsOk x) (hy : ConsOk y) W => equal_any x y hx hy W)
  have HQ := Lib.hid (fun W => eql_cons a b ha hb W)
  have HOK := Lib.hid (And.intro ha hb)
  have HC := Lib.hid (changeC_ok a (k % 9) ha h1 h2)
  have HCE := Lib.hid (changeC_eq a (k % 9) (by omega))
  have HA : Hid (∃ x, x = a) := Lib.hid ⟨a, rfl⟩
  have q1 : (k : Int).tmod 9 = ((k % 9 : Nat) : Int) := tmod_nat k 9
  clear ha hb
  generalize hr : k % 9 = r at *
  have hr9 : r < 9 := by omega
  clear hr
  obtain ⟨k1, o1, n1, p1, ⟨c1, t1, x1, u1⟩, a1, ⟨d1, g1, y1, v1⟩, b1⟩ := a
  obtain ⟨k2, o2, n2, p2, ⟨c2, t2, x2, u2⟩, a2, ⟨d2, g2, y2, v2⟩, b2⟩ := b
  simp only [consV] at HQ ⊢
  simp only at h1 h2
  have z1 : ¬ 9223372036854775807 < (o1.size : Int) + 1 := by omega
  have z2 : ¬ 9223372036854775807 < (x1.size : Int) + 1 := by omega
  go_enter Tryz.func5, Tryz.ntmps5
  go_upto_block 0 with fail
  go_cut [10] (fun s10 wx => ∃ c : ConsS, Aside (c = changeC ⟨k1, o1, n1, p1, ⟨c1, t1, x1, u1⟩, a1, ⟨d1, g1, y1, v1⟩, b1⟩ r ∧ wx.heap[w.heap.size]? = some (Obj.cells #[.int .i64 k1, .string o1, .int .i64 n1, .int .i64 p1, .int .i64 c1, .string t1, .string x1, .int .i64 u1, .int .i64 a1, .int .i64 d1, .string g1, .string y1, .int .i64 v1, .int .i64 b1] 37 (0, 0)) ∧ wx.heap[w.heap.size + 1]? = some (Obj.cells #[.int .i64 k2, .string o2, .int .i64 n2, .int .i64 p2, .int .i64 c2, .string t2, .string x2, .int .i64 u2, .int .i64 a2, .int .i64 d2, .string g2, .string y2, .int .i64 v2, .int .i64 b2] 37 (0, 0)) ∧ wx.heap[w.heap.size + 2]? = some (Obj.cells (encC c).toArray 37 (0, 0)) ∧ Ext w wx))
  case first =>
    have hr0 : r = 0 := hz
    subst hr0
    go_wp2_with fail
    go_meet
    exact ⟨_, rfl, eq_base w _ _ _⟩
  case rest =>
    obtain ⟨c, hA⟩ := hcut
    obtain ⟨hc, hb1, hb2, hb3, hx⟩ := hA
    have hcok : ConsOk c := by rw [hc]; exact HC.out
    have hce : c = ⟨k1, o1, n1, p1, ⟨c1, t1, x1, u1⟩, a1, ⟨d1, g1, y1, v1⟩, b1⟩ ↔ r = 0 := by rw [hc]; exact HCE.out
    have HX := Lib.hid hx
    clear hx hc HC HCE
    obtain ⟨k3, o3, n3, p3, ⟨c3, t3, x3, u3⟩, a3, ⟨d3, g3, y3, v3⟩, b3⟩ := c
    simp only [encC] at hb3
    have zk1 : ∀ p : Later wc, p.W.cell? ⟨w.heap.size, 0, none⟩ = some (.int .i64 k1) := fun p => later_cell ((cells_at hb1).1 0 _ rfl) p
    have zo1 : ∀ p : Later wc, p.W.cell? ⟨w.heap.size, 1, none⟩ = some (.string o1) := fun p => later_cell ((cells_at hb1).1 1 _ rfl) p
    have zn1 : ∀ p : Later wc, p.W.cell? ⟨w.heap.size, 2, none⟩ = some (.int .i64 n1) := fun p => later_cell ((cells_at hb1).1 2 _ rfl) p
    have zp1 : ∀ p : Later wc, p.W.cell? ⟨w.heap.size, 3, none⟩ = some (.int .i64 p1) := fun p => later_cell ((cells_at hb1).1 3 _ rfl) p
    have zc1 : ∀ p : Later wc, p.W.cell? ⟨w.heap.size, 4, none⟩ = some (.int .i64 c1) := fun p => later_cell ((cells_at hb1).1 4 _ rfl) p
    have zt1 : ∀ p : Later wc, p.W.cell? ⟨w.heap.size, 5, none⟩ = some (.string t1) := fun p => later_cell ((cells_at hb1).1 5 _ rfl) p
    have zx1 : ∀ p : Later wc, p.W.cell? ⟨w.heap.size, 6, none⟩ = some (.string x1) := fun p => later_cell ((cells_at hb1).1 6 _ rfl) p
    have zu1 : ∀ p : Later wc, p.W.cell? ⟨w.heap.size, 7, none⟩ = some (.int .i64 u1) := fun p => later_cell ((cells_at hb1).1 7 _ rfl) p
    have za1 : ∀ p : Later wc, p.W.cell? ⟨w.heap.size, 8, none⟩ = some (.int .i64 a1) := fun p => later_cell ((cells_at hb1).1 8 _ rfl) p
    have zd1 : ∀ p : Later wc, p.W.cell? ⟨w.heap.size, 9, none⟩ = some (.int .i64 d1) := fun p => later_cell ((cells_at hb1).1 9 _ rfl) p
    have zg1 : ∀ p : Later wc, p.W.cell? ⟨w.heap.size, 10, none⟩ = some (.string g1) := fun p => later_cell ((cells_at hb1).1 10 _ rfl) p
    have zy1 : ∀ p : Later wc, p.W.cell? ⟨w.heap.size, 11, none⟩ = some (.string y1) := fun p => later_cell ((cells_at hb1).1 11 _ rfl) p
    have zv1 : ∀ p : Later wc, p.W.cell? ⟨w.heap.size, 12, none⟩ = some (.int .i64 v1) := fun p => later_cell ((cells_at hb1).1 12 _ rfl) p
    have zb1 : ∀ p : Later wc, p.W.cell? ⟨w.heap.size, 13, none⟩ = some (.int .i64 b1) := fun p => later_cell ((cells_at hb1).1 13 _ rfl) p
    have zk2 : ∀ p : Later wc, p.W.cell? ⟨w.heap.size + 1, 0, none⟩ = some (.int .i64 k2) := fun p => later_cell ((cells_at hb2).1 0 _ rfl) p
    have zo2 : ∀ p : Later wc, p.W.cell? ⟨w.heap.size + 1, 1, none⟩ = some (.string o2) := fun p => later_cell ((cells_at hb2).1 1 _ rfl) p
    have zn2 : ∀ p : Later wc, p.W.cell? ⟨w.heap.size + 1, 2, none⟩ = some (.int .i64 n2) := fun p => later_cell ((cells_at hb2).1 2 _ rfl) p
    have zp2 : ∀ p : Later wc, p.W.cell? ⟨w.heap.size + 1, 3, none⟩ = some (.int .i64 p2) := fun p => later_cell ((cells_at hb2).1 3 _ rfl) p
    have zc2 : ∀ p : Later wc, p.W.cell? ⟨w.heap.size + 1, 4, none⟩ = some (.int .i64 c2) := fun p => later_cell ((cells_at hb2).1 4 _ rfl) p
    have zt2 : ∀ p : Later wc, p.W.cell? ⟨w.heap.size + 1, 5, none⟩ = some (.string t2) := fun p => later_cell ((cells_at hb2).1 5 _ rfl) p
    have zx2 : ∀ p : Later wc, p.W.cell? ⟨w.heap.size + 1, 6, none⟩ = some (.string x2) := fun p => later_cell ((cells_at hb2).1 6 _ rfl) p
    have zu2 : ∀ p : Later wc, p.W.cell? ⟨w.heap.size + 1, 7, none⟩ = some (.int .i64 u2) := fun p => later_cell ((cells_at hb2).1 7 _ rfl) p
    have za2 : ∀ p : Later wc, p.W.cell? ⟨w.heap.size + 1, 8, none⟩ = some (.int .i64 a2) := fun p => later_cell ((cells_at hb2).1 8 _ rfl) p
    have zd2 : ∀ p : Later wc, p.W.cell? ⟨w.heap.size + 1, 9, none⟩ = some (.int .i64 d2) := fun p => later_cell ((cells_at hb2).1 9 _ rfl) p
    have zg2 : ∀ p : Later wc, p.W.cell? ⟨w.heap.size + 1, 10, none⟩ = some (.string g2) := fun p => later_cell ((cells_at hb2).1 10 _ rfl) p
    have zy2 : ∀ p : Later wc, p.W.cell? ⟨w.heap.size + 1, 11, none⟩ = some (.string y2) := fun p => later_cell ((cells_at hb2).1 11 _ rfl) p
    have zv2 : ∀ p : Later wc, p.W.cell? ⟨w.heap.size + 1, 12, none⟩ = some (.int .i64 v2) := fun p => later_cell ((cells_at hb2).1 12 _ rfl) p
    have zb2 : ∀ p : Later wc, p.W.cell? ⟨w.heap.size + 1, 13, none⟩ = some (.int .i64 b2) := fun p => later_cell ((cells_at hb2).1 13 _ rfl) p
    have zk3 : ∀ p : Later wc, p.W.cell? ⟨w.heap.size + 2, 0, none⟩ = some (.int .i64 k3) := fun p => later_cell ((cells_at hb3).1 0 _ rfl) p
    have zo3 : ∀ p : Later wc, p.W.cell? ⟨w.heap.size + 2, 1, none⟩ = some (.string o3) := fun p => later_cell ((cells_at hb3).1 1 _ rfl) p
    have zn3 : ∀ p : Later wc, p.W.cell? ⟨w.heap.size + 2, 2, none⟩ = some (.int .i64 n3) := fun p => later_cell ((cells_at hb3).1 2 _ rfl) p
    have zp3 : ∀ p : Later wc, p.W.cell? ⟨w.heap.size + 2, 3, none⟩ = some (.int .i64 p3) := fun p => later_cell ((cells_at hb3).1 3 _ rfl) p
    have zc3 : ∀ p : Later wc, p.W.cell? ⟨w.heap.size + 2, 4, none⟩ = some (.int .i64 c3) := fun p => later_cell ((cells_at hb3).1 4 _ rfl) p
    have zt3 : ∀ p : Later wc, p.W.cell? ⟨w.heap.size + 2, 5, none⟩ = some (.string t3) := fun p => later_cell ((cells_at hb3).1 5 _ rfl) p
    have zx3 : ∀ p : Later wc, p.W.cell? ⟨w.heap.size + 2, 6, none⟩ = some (.string x3) := fun p => later_cell ((cells_at hb3).1 6 _ rfl) p
    have zu3 : ∀ p : Later wc, p.W.cell? ⟨w.heap.size + 2, 7, none⟩ = some (.int .i64 u3) := fun p => later_cell ((cells_at hb3).1 7 _ rfl) p
    have za3 : ∀ p : Later wc, p.W.cell? ⟨w.heap.size + 2, 8, none⟩ = some (.int .i64 a3) := fun p => later_cell ((cells_at hb3).1 8 _ rfl) p
    have zd3 : ∀ p : Later wc, p.W.cell? ⟨w.heap.size + 2, 9, none⟩ = some (.int .i64 d3) := fun p => later_cell ((cells_at hb3).1 9 _ rfl) p
    have zg3 : ∀ p : Later wc, p.W.cell? ⟨w.heap.size + 2, 10, none⟩ = some (.string g3) := fun p => later_cell ((cells_at hb3).1 10 _ rfl) p
    have zy3 : ∀ p : Later wc, p.W.cell? ⟨w.heap.size + 2, 11, none⟩ = some (.string y3) := fun p => later_cell ((cells_at hb3).1 11 _ rfl) p
    have zv3 : ∀ p : Later wc, p.W.cell? ⟨w.heap.size + 2, 12, none⟩ = some (.int .i64 v3) := fun p => later_cell ((cells_at hb3).1 12 _ rfl) p
    have zb3 : ∀ p : Later wc, p.W.cell? ⟨w.heap.size + 2, 13, none⟩ = some (.int .i64 b3) := fun p => later_cell ((cells_at hb3).1 13 _ rfl) p
    have E1 := HE.out _ _ HOK.out.1 HOK.out.2
    have E2 := HE.out _ _ HOK.out.1 hcok
    have E3 := HE.out _ _ hcok HOK.out.1
    simp only [consV] at E1 E2 E3
    generalize decide ((⟨k1, o1, n1, p1, ⟨c1, t1, x1, u1⟩, a1, ⟨d1, g1, y1, v1⟩, b1⟩ : ConsS) = ⟨k2, o2, n2, p2, ⟨c2, t2, x2, u2⟩, a2, ⟨d2, g2, y2, v2⟩, b2⟩) = f1 at *
    have hq := HQ.out
    have HK := Lib.hid (fun W => known_any W)
    have HE1 := Lib.hid E1
    clear E1 HE hb1 hb2 hb3 HOK hcok HA
    have hf : (f1 == f1) = true := by simp
    have hr0 : r = 0 := hz
    have e2 : decide ((⟨k1, o1, n1, p1, ⟨c1, t1, x1, u1⟩, a1, ⟨d1, g1, y1, v1⟩, b1⟩ : ConsS) = ⟨k3, o3, n3, p3, ⟨c3, t3, x3, u3⟩, a3, ⟨d3, g3, y3, v3⟩, b3⟩) = true := decide_eq_true (hce.2 hr0).symm
    have e3 : decide ((⟨k3, o3, n3, p3, ⟨c3, t3, x3, u3⟩, a3, ⟨d3, g3, y3, v3⟩, b3⟩ : ConsS) = ⟨k1, o1, n1, p1, ⟨c1, t1, x1, u1⟩, a1, ⟨d1, g1, y1, v1⟩, b1⟩) = true := decide_eq_true (hce.2 hr0)
    rw [e2] at E2
    rw [e3] at E3
    have HE2 := Lib.hid E2
    have HE3 := Lib.hid E3
    subst hz
    clear hr0
    have q0 : ((0 : Nat) : Int) = 0 := rfl
    rw [q0] at q1
    clear E2 E3 e2 e3 hce q0
    go_step
    go_step
    refine wp_region_later (by kernel_rfl) (by kernel_rfl) ?_
    repeat (go_big_quiet_step (first | exact rfl | exact later_of (HK.out _) | exact later_of (HE1.out _) | exact later_of (HE2.out _) | exact later_of (HE3.out _)))
    refine wpQuiet_nil ?_
    rintro _ ⟨⟨W9, hx9⟩, rfl⟩
    have HX9 := Lib.hid (HX.out.trans hx9)
    clear hx9
    go_wp2_with fail
    go_ret
    exact ⟨rfl, HX9.out⟩
end Go.Proofs.YtehmgeodpjmfaaaGreatDoor
