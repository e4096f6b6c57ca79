/- state: New, tree, Get, Len, With. -/
import Derived.Deep.LoopGhost
import Derived.Test.YtehmgeodpjmfaaaGreatDoorWith
import Derived.Test.YtehmgeodpjmfaaaGreatDoorCheck
namespace Go.Proofs.YtehmgeodpjmfaaaGreatDoor
open Go.RowKit

def BT.get : BT → NameS → Option ByteArray
  | .nil, _ => none
  | .node l m u r, n => if cmpNm n m < 0 then BT.get l n else if 0 < cmpNm n m then BT.get r n else some u
/-- A state lies at ps: a block with the address of its tree. -/
def IsS (w : World) (ps : Option Addr) (t : BT) : Prop := ∃ b pt, ps = some ⟨b, 0, none⟩ ∧ w.heap[b]? = some (Obj.cells #[.pointer pt] 111 (0, 0)) ∧ IsT w pt t
theorem IsS.ext {w w' : World} (hx : Ext w w') {t : BT} {p : Option Addr} : IsS w p t → IsS w' p t
  | ⟨b, pt, hp, hb, ht⟩ => ⟨b, pt, hp, (hx.block (Array.getElem?_eq_some_iff.1 hb).1).trans hb, IsT.ext hx ht⟩

theorem new_any (w : World) : Calls Tryz.prog 21 #[] w fun e w' => ∃ q, e = .returned (.pointer q) ∧ IsS w' q .nil ∧ Ext w w' := by
  go_enter Tryz.func21, Tryz.ntmps21
  go_wp2
  go_ret
  exact ⟨_, rfl, ⟨_, none, rfl, heap_new w _, rfl⟩, (Ext.refl w).alloc _⟩
theorem sttree_any (t : BT) (ps : Option Addr) (w : World) (h : IsS w ps t) :
    Calls Tryz.prog 64 #[.pointer ps] w fun e w' => (∃ q, e = .returned (.pointer q) ∧ IsT w q t) ∧ w = w' := by
  obtain ⟨b, pt, rfl, hb, ht⟩ := h
  have c0 := (cells_at hb).1 0 _ rfl
  have HT := Lib.hid ht
  clear hb ht
  go_enter Tryz.func64, Tryz.ntmps64
  go_wp2
  go_ret
  exact ⟨⟨_, rfl, HT.out⟩, rfl⟩
theorem slen_any (t : BT) (ps : Option Addr) (w : World) (h : IsS w ps t) :
    Calls Tryz.prog 59 #[.pointer ps] w fun e w' => e = .returned (.int .i64 t.sz) ∧ w = w' := by
  go_enter Tryz.func59, Tryz.ntmps59
  go_wp2_with (first | (go_at_call 64; refine (sttree_any t _ _ h).mono ?_; rintro e w' ⟨⟨q, rfl, hq⟩, rfl⟩) | (go_at_call 86; refine (many_any t _ _ hq).mono ?_; rintro e w' ⟨rfl, rfl⟩))
  go_ret
  exact ⟨rfl, rfl⟩


set_option maxHeartbeats 8000000 in
set_option maxRecDepth 100000 in
theorem get_any (n : NameS) (hn : NmOk n) (t : BT) (hok : AllOk t) (ps : Option Addr) (w : World) (h : IsS w ps t) :
    Calls Tryz.prog 35 #[.pointer ps, nmV n] w fun e w' => e = .returned (.tuple #[.string ((t.get n).getD ⟨#[]⟩), .bool (t.get n).isSome]) ∧ Ext w w' := by
  simp only [nmV]
  go_enter Tryz.func35, Tryz.ntmps35
  go_wp2_with (first | (go_at_call 64; refine (sttree_any t _ _ (IsS.ext ((Ext.refl w).alloc _) h)).mono ?_; rintro e w' ⟨⟨q, rfl, hq⟩, rfl⟩))
  obtain ⟨W1, hW1⟩ : ∃ W1, w.alloc (.cells #[.int .i64 n.kind, .string n.owner, .int .i64 n.number, .int .i64 n.index, .string n.text] 78) = W1 := ⟨_, rfl⟩
  have hB : Ext w W1 := by rw [← hW1]; exact (Ext.refl w).alloc _
  have HB := Lib.hid hB

  have a0 : W1.cell? ⟨w.heap.size, 0, none⟩ = some (.int .i64 n.kind) := by rw [← hW1]; simp
  have a1 : W1.cell? ⟨w.heap.size, 1, none⟩ = some (.string n.owner) := by rw [← hW1]; simp
  have a2 : W1.cell? ⟨w.heap.size, 2, none⟩ = some (.int .i64 n.number) := by rw [← hW1]; simp
  have a3 : W1.cell? ⟨w.heap.size, 3, none⟩ = some (.int .i64 n.index) := by rw [← hW1]; simp
  have a4 : W1.cell? ⟨w.heap.size, 4, none⟩ = some (.string n.text) := by rw [← hW1]; simp
  rw [hW1] at hq ⊢
  clear hW1 hB h
  have A0 := Lib.hid (And.intro hok hq)
  clear hok hq
  go_loopg [6] t.sz (fun g d wx => ∃ (T : BT) (p : Option Addr), d = .pointer p ∧ T.sz ≤ g ∧ Aside (AllOk T ∧ IsT wx p T ∧ T.get n = t.get n) ∧ Ext W1 wx)
  case atStart => exact ⟨t, q, rfl, Nat.le_refl _, ⟨A0.out.1, A0.out.2, rfl⟩, Ext.refl _⟩
  case round =>
    obtain ⟨T, p, rfl, hg, hA, hx⟩ := hrel
    clear A0

    obtain ⟨W1p, hW1p⟩ : ∃ W1p, wr = W1p := ⟨_, rfl⟩
    clear hW1p
    have HX := Lib.hid hx
    cases T with
    | nil =>
      obtain rfl : p = none := hA.out.2.1
      have hG := hA.out.2.2
      go_wp2_with fail
      go_ret2
      exact ⟨by rw [← hG]; rfl, HB.out.trans HX.out⟩
    | node l m u r =>
      obtain ⟨okl, okm, okr⟩ := hA.out.1.node
      have HC := Lib.hid (fun W => ocmp_any n m hn okm W)
      have HG := Lib.hid hA.out.2.2
      obtain ⟨b, pl, pr, hpb, hb, htl, htr⟩ := hA.out.2.1
      cases hpb
      obtain ⟨c0, c1, c2, c3, c4, c5, c6, c7, _⟩ := node_cells hb

      have x0 := hx.cell_some a0
      have x1 := hx.cell_some a1
      have x2 := hx.cell_some a2
      have x3 := hx.cell_some a3
      have x4 := hx.cell_some a4
      have hsz : l.sz + r.sz + 1 ≤ gk := by simp only [BT.sz] at hg; omega
      have HLR := Lib.hid (And.intro htl htr)
      have HO := Lib.hid (And.intro okl okr)
      clear hb htl htr okl okr okm hA hg a0 a1 a2 a3 a4 hx
      have hD := Ext.refl wr
      simp only [nmV] at HC
      go_upto_region 3 with fail

      go_region_held3 (fun W => W.cell? ⟨w.heap.size, 0, none⟩ = some (.int .i64 n.kind) ∧ W.cell? ⟨w.heap.size, 1, none⟩ = some (.string n.owner) ∧ W.cell? ⟨w.heap.size, 2, none⟩ = some (.int .i64 n.number) ∧ W.cell? ⟨w.heap.size, 3, none⟩ = some (.int .i64 n.index) ∧ W.cell? ⟨w.heap.size, 4, none⟩ = some (.string n.text) ∧ W.cell? ⟨b, 0, none⟩ = some (.int .i64 m.kind) ∧ W.cell? ⟨b, 1, none⟩ = some (.string m.owner) ∧ W.cell? ⟨b, 2, none⟩ = some (.int .i64 m.number) ∧ W.cell? ⟨b, 3, none⟩ = some (.int .i64 m.index) ∧ W.cell? ⟨b, 4, none⟩ = some (.string m.text) ∧ W.cell? ⟨b, 5, none⟩ = some (.string u) ∧ W.cell? ⟨b, 6, none⟩ = some (.pointer pl) ∧ W.cell? ⟨b, 7, none⟩ = some (.pointer pr))
        (exact ⟨Ext.cell_some (w := wr) (by repeat (first | with_reducible assumption | with_reducible refine Ext.drew ?_ | with_reducible refine Ext.alloc ?_ _ | with_reducible refine Ext.setCell ?_ (Nat.le_refl _) _ | with_reducible exact Ext.refl _)) x0, Ext.cell_some (w := wr) (by repeat (first | with_reducible assumption | with_reducible refine Ext.drew ?_ | with_reducible refine Ext.alloc ?_ _ | with_reducible refine Ext.setCell ?_ (Nat.le_refl _) _ | with_reducible exact Ext.refl _)) x1, Ext.cell_some (w := wr) (by repeat (first | with_reducible assumption | with_reducible refine Ext.drew ?_ | with_reducible refine Ext.alloc ?_ _ | with_reducible refine Ext.setCell ?_ (Nat.le_refl _) _ | with_reducible exact Ext.refl _)) x2, Ext.cell_some (w := wr) (by repeat (first | with_reducible assumption | with_reducible refine Ext.drew ?_ | with_reducible refine Ext.alloc ?_ _ | with_reducible refine Ext.setCell ?_ (Nat.le_refl _) _ | with_reducible exact Ext.refl _)) x3, Ext.cell_some (w := wr) (by repeat (first | with_reducible assumption | with_reducible refine Ext.drew ?_ | with_reducible refine Ext.alloc ?_ _ | with_reducible refine Ext.setCell ?_ (Nat.le_refl _) _ | with_reducible exact Ext.refl _)) x4, Ext.cell_some (w := wr) (by repeat (first | with_reducible assumption | with_reducible refine Ext.drew ?_ | with_reducible refine Ext.alloc ?_ _ | with_reducible refine Ext.setCell ?_ (Nat.le_refl _) _ | with_reducible exact Ext.refl _)) c0, Ext.cell_some (w := wr) (by repeat (first | with_reducible assumption | with_reducible refine Ext.drew ?_ | with_reducible refine Ext.alloc ?_ _ | with_reducible refine Ext.setCell ?_ (Nat.le_refl _) _ | with_reducible exact Ext.refl _)) c1, Ext.cell_some (w := wr) (by repeat (first | with_reducible assumption | with_reducible refine Ext.drew ?_ | with_reducible refine Ext.alloc ?_ _ | with_reducible refine Ext.setCell ?_ (Nat.le_refl _) _ | with_reducible exact Ext.refl _)) c2, Ext.cell_some (w := wr) (by repeat (first | with_reducible assumption | with_reducible refine Ext.drew ?_ | with_reducible refine Ext.alloc ?_ _ | with_reducible refine Ext.setCell ?_ (Nat.le_refl _) _ | with_reducible exact Ext.refl _)) c3, Ext.cell_some (w := wr) (by repeat (first | with_reducible assumption | with_reducible refine Ext.drew ?_ | with_reducible refine Ext.alloc ?_ _ | with_reducible refine Ext.setCell ?_ (Nat.le_refl _) _ | with_reducible exact Ext.refl _)) c4, Ext.cell_some (w := wr) (by repeat (first | with_reducible assumption | with_reducible refine Ext.drew ?_ | with_reducible refine Ext.alloc ?_ _ | with_reducible refine Ext.setCell ?_ (Nat.le_refl _) _ | with_reducible exact Ext.refl _)) c5, Ext.cell_some (w := wr) (by repeat (first | with_reducible assumption | with_reducible refine Ext.drew ?_ | with_reducible refine Ext.alloc ?_ _ | with_reducible refine Ext.setCell ?_ (Nat.le_refl _) _ | with_reducible exact Ext.refl _)) c6, Ext.cell_some (w := wr) (by repeat (first | with_reducible assumption | with_reducible refine Ext.drew ?_ | with_reducible refine Ext.alloc ?_ _ | with_reducible refine Ext.setCell ?_ (Nat.le_refl _) _ | with_reducible exact Ext.refl _)) c7⟩)
        (first | (go_at_call 65; refine (HC.out _).mono ?_; rintro e w2 ⟨rfl, hx2⟩; have hD2 := Ext.trans (a := wr) (by repeat (first | with_reducible assumption | with_reducible refine Ext.drew ?_ | with_reducible refine Ext.alloc ?_ _ | with_reducible refine Ext.setCell ?_ (Nat.le_refl _) _ | with_reducible exact Ext.refl _)) hx2))

      all_goals
        generalize hc : cmpNm n m = c at *
        have HCM := Lib.hid hc
        clear hc
        rcases (show c < 0 ∨ 0 < c ∨ (¬ c < 0 ∧ ¬ 0 < c) from by omega) with h1 | h1 | ⟨h1, h2⟩
        · go_wp2_with fail
          go_roundg l.sz
          case measure => omega
          case rel =>
            have hX2 : Ext wr w2 := by assumption
            exact ⟨l, pl, rfl, Nat.le_refl _, ⟨HO.out.1, IsT.ext hX2 HLR.out.1, by rw [← HG.out, BT.get, HCM.out, if_pos h1]⟩, HX.out.trans hX2⟩
        · go_wp2_with fail
          go_roundg r.sz
          case measure => omega
          case rel =>
            have hX2 : Ext wr w2 := by assumption
            exact ⟨r, pr, rfl, Nat.le_refl _, ⟨HO.out.2, IsT.ext hX2 HLR.out.2, by rw [← HG.out, BT.get, HCM.out, if_neg (by omega), if_pos h1]⟩, HX.out.trans hX2⟩
        · go_wp2_with fail
          go_ret2
          have hX2 : Ext wr w2 := by assumption
          exact ⟨by rw [← HG.out, BT.get, HCM.out, if_neg (by omega), if_neg (by omega)]; rfl, HB.out.trans (HX.out.trans hX2)⟩

set_option maxHeartbeats 8000000 in
set_option maxRecDepth 100000 in
theorem swith_any (n : NameS) (v : ByteArray) (hn : NmOk n) (hv : v.size ≤ 65536) (hchk : ∀ W, Calls Tryz.prog 58 #[nmV n] W fun e w' => e = .returned (.int .i64 0) ∧ Ext W w')
    (t : BT) (hok : AllOk t) (hs : t.sz < 65536) (hb : t.by_ ≤ 800000000000000000) (ps : Option Addr) (w : World) (h : IsS w ps t) :
    Calls Tryz.prog 30 #[.pointer ps, nmV n, .string v] w fun e w' => ∃ q, e = .returned (.tuple #[.pointer q, .int .i64 0]) ∧ IsS w' q (t.with_ n v) ∧ Ext w w' := by
  have HV := Lib.hid hchk
  have HG := Lib.hid (fun q W hq => get_any n hn t hok q W hq)
  have HL := Lib.hid (fun q W hq => slen_any t q W hq)
  have HW := Lib.hid (fun q W hq => with_any n v hn t q W hq hok (by omega) (by omega))
  have hv1 : (65536 < (v.size : Int)) = False := by simp; omega
  have hs1 : ((65536 : Int) ≤ (t.sz : Int)) = False := by simp; omega
  clear hchk hok hb
  obtain ⟨sb, pt, hps, hsb, hst⟩ := id h
  cases hps
  clear hsb hst
  simp only [nmV] at HV HG HW ⊢
  go_enter Tryz.func30, Tryz.ntmps30
  go_wp2_with fail
  obtain ⟨W1, hW1⟩ : ∃ W1, w.alloc (.cells #[.int .i64 n.kind, .string n.owner, .int .i64 n.number, .int .i64 n.index, .string n.text] 78) = W1 := ⟨_, rfl⟩
  have hB : Ext w W1 := by rw [← hW1]; exact (Ext.refl w).alloc _

  have a0 : W1.cell? ⟨w.heap.size, 0, none⟩ = some (.int .i64 n.kind) := by rw [← hW1]; simp
  have a1 : W1.cell? ⟨w.heap.size, 1, none⟩ = some (.string n.owner) := by rw [← hW1]; simp
  have a2 : W1.cell? ⟨w.heap.size, 2, none⟩ = some (.int .i64 n.number) := by rw [← hW1]; simp
  have a3 : W1.cell? ⟨w.heap.size, 3, none⟩ = some (.int .i64 n.index) := by rw [← hW1]; simp
  have a4 : W1.cell? ⟨w.heap.size, 4, none⟩ = some (.string n.text) := by rw [← hW1]; simp
  rw [hW1]
  have HS := Lib.hid (IsS.ext hB h)
  have HB := Lib.hid hB
  have hD := Ext.refl W1
  clear hW1 h hB
  generalize hgb : (t.get n).isSome = bb at HG
  clear hgb
  cases bb
  all_goals
    go_upto_region 10 with (first
      | (go_at_call 35; refine (HG.out _ _ HS.out).mono ?_; rintro e w2 ⟨rfl, hx2⟩; have y0 := hx2.cell_some a0; have y1 := hx2.cell_some a1; have y2 := hx2.cell_some a2; have y3 := hx2.cell_some a3; have y4 := hx2.cell_some a4; have HS2 := Lib.hid (IsS.ext hx2 HS.out))
      | (go_at_call 58; refine (HV.out _).mono ?_; rintro e w3 ⟨rfl, hx3⟩; have z0 := hx3.cell_some y0; have z1 := hx3.cell_some y1; have z2 := hx3.cell_some y2; have z3 := hx3.cell_some y3; have z4 := hx3.cell_some y4; have HS3 := Lib.hid (IsS.ext hx3 HS2.out))
      | (go_at_call 59; refine (HL.out _ _ HS3.out).mono ?_; rintro e w4 ⟨rfl, rfl⟩))
    obtain ⟨sb', pt', hps', hsb', hst'⟩ := HS3.out
    cases hps'
    have s0 := (cells_at hsb').1 0 _ rfl
    have HT := Lib.hid hst'
    have HX := Lib.hid (HB.out.trans (hx2.trans hx3))
    clear hsb' hst' a0 a1 a2 a3 a4 y0 y1 y2 y3 y4 HS HS2 HS3 HB
    clear hx2 hx3 hD
    have hD := Ext.refl w3

    go_region_held3 (fun W => W.cell? ⟨w.heap.size, 0, none⟩ = some (.int .i64 n.kind) ∧ W.cell? ⟨w.heap.size, 1, none⟩ = some (.string n.owner) ∧ W.cell? ⟨w.heap.size, 2, none⟩ = some (.int .i64 n.number) ∧ W.cell? ⟨w.heap.size, 3, none⟩ = some (.int .i64 n.index) ∧ W.cell? ⟨w.heap.size, 4, none⟩ = some (.string n.text) ∧ W.cell? ⟨sb, 0, none⟩ = some (.pointer pt'))
      (exact ⟨Ext.cell_some (w := w3) (by repeat (first | with_reducible assumption | with_reducible refine Ext.drew ?_ | with_reducible refine Ext.alloc ?_ _ | with_reducible refine Ext.setCell ?_ (Nat.le_refl _) _ | with_reducible exact Ext.refl _)) z0, Ext.cell_some (w := w3) (by repeat (first | with_reducible assumption | with_reducible refine Ext.drew ?_ | with_reducible refine Ext.alloc ?_ _ | with_reducible refine Ext.setCell ?_ (Nat.le_refl _) _ | with_reducible exact Ext.refl _)) z1, Ext.cell_some (w := w3) (by repeat (first | with_reducible assumption | with_reducible refine Ext.drew ?_ | with_reducible refine Ext.alloc ?_ _ | with_reducible refine Ext.setCell ?_ (Nat.le_refl _) _ | with_reducible exact Ext.refl _)) z2, Ext.cell_some (w := w3) (by repeat (first | with_reducible assumption | with_reducible refine Ext.drew ?_ | with_reducible refine Ext.alloc ?_ _ | with_reducible refine Ext.setCell ?_ (Nat.le_refl _) _ | with_reducible exact Ext.refl _)) z3, Ext.cell_some (w := w3) (by repeat (first | with_reducible assumption | with_reducible refine Ext.drew ?_ | with_reducible refine Ext.alloc ?_ _ | with_reducible refine Ext.setCell ?_ (Nat.le_refl _) _ | with_reducible exact Ext.refl _)) z4, Ext.cell_some (w := w3) (by repeat (first | with_reducible assumption | with_reducible refine Ext.drew ?_ | with_reducible refine Ext.alloc ?_ _ | with_reducible refine Ext.setCell ?_ (Nat.le_refl _) _ | with_reducible exact Ext.refl _)) s0⟩)
      (first | (go_at_call 60; refine (HW.out _ _ (IsT.ext (w := w3) (by repeat (first | with_reducible assumption | with_reducible refine Ext.drew ?_ | with_reducible refine Ext.alloc ?_ _ | with_reducible refine Ext.setCell ?_ (Nat.le_refl _) _ | with_reducible exact Ext.refl _)) HT.out)).mono ?_; rintro e w5 ⟨p5, rfl, ht5, hx5⟩; have hD5 := Ext.trans (a := w3) (by repeat (first | with_reducible assumption | with_reducible refine Ext.drew ?_ | with_reducible refine Ext.alloc ?_ _ | with_reducible refine Ext.setCell ?_ (Nat.le_refl _) _ | with_reducible exact Ext.refl _)) hx5; have H5 := Lib.hid ht5; clear ht5))

    all_goals go_wp2_with fail
    all_goals go_ret2
    all_goals
      refine ⟨_, rfl, ⟨_, _, rfl, heap_new _ _, IsT.ext ?_ H5.out⟩, ?_⟩
      · exact (by repeat (first | with_reducible assumption | with_reducible refine Ext.drew ?_ | with_reducible refine Ext.alloc ?_ _ | with_reducible refine Ext.setCell ?_ (Nat.le_refl _) _ | with_reducible exact Ext.refl _))
      · exact HX.out.trans (by repeat (first | with_reducible assumption | with_reducible refine Ext.drew ?_ | with_reducible refine Ext.alloc ?_ _ | with_reducible refine Ext.setCell ?_ (Nat.le_refl _) _ | with_reducible exact Ext.refl _))

end Go.Proofs.YtehmgeodpjmfaaaGreatDoor
