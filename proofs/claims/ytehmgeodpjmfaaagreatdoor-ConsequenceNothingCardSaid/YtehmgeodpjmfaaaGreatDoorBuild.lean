/- law 50: build. -/
import Derived.Deep.RegionHeld3
import Derived.Deep.DeepCutAuto
import Derived.Deep.CutBlock
import Derived.Test.YtehmgeodpjmfaaaGreatDoorBuildPure
import Derived.Test.YtehmgeodpjmfaaaGreatDoorState
namespace Go.Proofs.YtehmgeodpjmfaaaGreatDoor
open Go.RowKit

theorem who_0 : ∀ W, (Instr.index 64 namesV (.int .u8 0)).run Tryz.prog W = .ok (.string nm1) W := fun _ => by kernel_rfl
theorem who_1 : ∀ W, (Instr.index 64 namesV (.int .u8 1)).run Tryz.prog W = .ok (.string nm12) W := fun _ => by kernel_rfl
theorem who_2 : ∀ W, (Instr.index 64 namesV (.int .u8 2)).run Tryz.prog W = .ok (.string nm3) W := fun _ => by kernel_rfl
theorem who_index (k : Nat) (W : World) : (Instr.index 64 namesV (.int .u8 ((k % 3 : Nat) : Int))).run Tryz.prog W = .ok (.string (whoN k)) W := by
  unfold whoN
  rcases (show k % 3 = 0 ∨ k % 3 = 1 ∨ k % 3 = 2 by omega) with h | h | h
  · rw [h, if_pos rfl]; exact who_0 W
  · rw [h, if_neg (by decide), if_pos rfl]; exact who_1 W
  · rw [h, if_neg (by decide), if_neg (by decide)]; exact who_2 W
/-- An item that lies in a slice, field by field. -/
theorem Rd.item {w : World} {v : Value} {l : List ItemS} (h : Rd w 5 encI5 v l) : l.length ≤ 9223372036854775807 ∧ ∃ A c, v = .slice A l.length c ∧
    (0 < l.length → ∃ b off, A = some ⟨b, off, none⟩ ∧ b < w.heap.size ∧ ∀ j (hj : j < l.length), w.cell? ⟨b, off + j * 5, none⟩ = some (.int .u8 l[j].who) ∧ w.cell? ⟨b, off + j * 5 + 1, none⟩ = some (.int .u8 l[j].num) ∧ w.cell? ⟨b, off + j * 5 + 2, none⟩ = some (.int .u8 l[j].tick) ∧ w.cell? ⟨b, off + j * 5 + 3, none⟩ = some (.int .u8 l[j].chan) ∧ w.cell? ⟨b, off + j * 5 + 4, none⟩ = some (.string l[j].text)) := by
  obtain ⟨hm, A, c, hv, hr⟩ := h
  refine ⟨hm, A, c, hv, fun h0 => ?_⟩
  obtain ⟨b, off, hA, hb, hc⟩ := hr h0
  exact ⟨b, off, hA, hb, fun j hj => ⟨hc j hj 0 _ rfl, hc j hj 1 _ rfl, hc j hj 2 _ rfl, hc j hj 3 _ rfl, hc j hj 4 _ rfl⟩⟩
theorem IsT.fr {w w' : World} {p : Nat} {c : Array Value} {f : Nat × Nat} (hp : w.heap[p]? = some (Obj.cells c 107 f)) (h : Fr p (.slice none 0 0) w w') : ∀ {t : BT} {q : Option Addr}, IsT w q t → IsT w' q t
  | .nil, _, h1 => h1
  | .node _ _ _ _, _, ⟨b, pl, pr, hq, hb, hl, hr⟩ => ⟨b, pl, pr, hq, (h.block b (Array.getElem?_eq_some_iff.1 hb).1 (fun e => by subst e; rw [hb] at hp; cases hp) (fun e => by cases e)).trans hb, IsT.fr hp h hl, IsT.fr hp h hr⟩
theorem IsS.fr {w w' : World} {p : Nat} {c : Array Value} {f : Nat × Nat} {t : BT} {q : Option Addr} (hq : IsS w q t) (hp : w.heap[p]? = some (Obj.cells c 107 f)) (h : Fr p (.slice none 0 0) w w') : IsS w' q t := by
  obtain ⟨b, pt, hq, hb, ht⟩ := hq
  exact ⟨b, pt, hq, (h.block b (Array.getElem?_eq_some_iff.1 hb).1 (fun e => by subst e; rw [hb] at hp; cases hp) (fun e => by cases e)).trans hb, IsT.fr hp h ht⟩
theorem set9 {w : World} {b : Nat} {T : TypeId} {x0 x1 x2 x3 x4 x5 x6 x7 x8 : Value} (h : w.heap[b]? = some (Obj.cells #[x0, x1, x2, x3, x4, x5, x6, x7, x8] T (0, 0))) (y0 y1 y2 y3 y4 y5 y6 y7 y8 : Value) :
    (((((((((w.setCell ⟨b, 0, none⟩ y0).setCell ⟨b, 1, none⟩ y1).setCell ⟨b, 2, none⟩ y2).setCell ⟨b, 3, none⟩ y3).setCell ⟨b, 4, none⟩ y4).setCell ⟨b, 5, none⟩ y5).setCell ⟨b, 6, none⟩ y6).setCell ⟨b, 7, none⟩ y7).setCell ⟨b, 8, none⟩ y8).heap[b]? = some (Obj.cells #[y0, y1, y2, y3, y4, y5, y6, y7, y8] T (0, 0)) := by
  have h0 : (w.setCell ⟨b, 0, none⟩ y0).heap[b]? = some (Obj.cells #[y0, x1, x2, x3, x4, x5, x6, x7, x8] T (0, 0)) := heap_setCell_at h y0
  have h1 : ((w.setCell ⟨b, 0, none⟩ y0).setCell ⟨b, 1, none⟩ y1).heap[b]? = some (Obj.cells #[y0, y1, x2, x3, x4, x5, x6, x7, x8] T (0, 0)) := heap_setCell_at h0 y1
  generalize (w.setCell ⟨b, 0, none⟩ y0).setCell ⟨b, 1, none⟩ y1 = W at h1 ⊢
  have h2 : (W.setCell ⟨b, 2, none⟩ y2).heap[b]? = some (Obj.cells #[y0, y1, y2, x3, x4, x5, x6, x7, x8] T (0, 0)) := heap_setCell_at h1 y2
  have h3 : ((W.setCell ⟨b, 2, none⟩ y2).setCell ⟨b, 3, none⟩ y3).heap[b]? = some (Obj.cells #[y0, y1, y2, y3, x4, x5, x6, x7, x8] T (0, 0)) := heap_setCell_at h2 y3
  generalize (W.setCell ⟨b, 2, none⟩ y2).setCell ⟨b, 3, none⟩ y3 = W at h3 ⊢
  have h4 : (W.setCell ⟨b, 4, none⟩ y4).heap[b]? = some (Obj.cells #[y0, y1, y2, y3, y4, x5, x6, x7, x8] T (0, 0)) := heap_setCell_at h3 y4
  have h5 : ((W.setCell ⟨b, 4, none⟩ y4).setCell ⟨b, 5, none⟩ y5).heap[b]? = some (Obj.cells #[y0, y1, y2, y3, y4, y5, x6, x7, x8] T (0, 0)) := heap_setCell_at h4 y5
  generalize (W.setCell ⟨b, 4, none⟩ y4).setCell ⟨b, 5, none⟩ y5 = W at h5 ⊢
  have h6 : (W.setCell ⟨b, 6, none⟩ y6).heap[b]? = some (Obj.cells #[y0, y1, y2, y3, y4, y5, y6, x7, x8] T (0, 0)) := heap_setCell_at h5 y6
  have h7 : ((W.setCell ⟨b, 6, none⟩ y6).setCell ⟨b, 7, none⟩ y7).heap[b]? = some (Obj.cells #[y0, y1, y2, y3, y4, y5, y6, y7, x8] T (0, 0)) := heap_setCell_at h6 y7
  exact heap_setCell_at h7 y8
theorem ext_set9 {a w : World} {b : Nat} (h : Ext a w) (hb : a.heap.size ≤ b) (y0 y1 y2 y3 y4 y5 y6 y7 y8 : Value) :
    Ext a (((((((((w.setCell ⟨b, 0, none⟩ y0).setCell ⟨b, 1, none⟩ y1).setCell ⟨b, 2, none⟩ y2).setCell ⟨b, 3, none⟩ y3).setCell ⟨b, 4, none⟩ y4).setCell ⟨b, 5, none⟩ y5).setCell ⟨b, 6, none⟩ y6).setCell ⟨b, 7, none⟩ y7).setCell ⟨b, 8, none⟩ y8) :=
  ((((((((h.setCell hb y0).setCell hb y1).setCell hb y2).setCell hb y3).setCell hb y4).setCell hb y5).setCell hb y6).setCell hb y7).setCell hb y8
theorem tmod_nat (a b : Nat) : (a : Int).tmod (b : Int) = ((a % b : Nat) : Int) := by rw [Int.tmod_eq_emod_of_nonneg (by omega)]; omega

set_option maxHeartbeats 8000000 in
set_option maxRecDepth 100000 in
theorem build_any (nv lv : Value) (now left : List ItemS) (w : World) (hn : Rd w 5 encI5 nv now) (hl : Rd w 5 encI5 lv left) (okn : ∀ x ∈ now, ItemOk x) (okl : ∀ x ∈ left, ItemOk x) :
    Calls Tryz.prog 10 #[nv, lv] w fun e w' => ∃ q p v, e = .returned (.tuple #[.pointer q, .pointer (some ⟨p, 0, none⟩), .bool true]) ∧ IsS w' q (stB (now.take 20)) ∧ LAt w' p (ledB 0 (left.take 20)) v ∧ w.heap.size ≤ p ∧ Ext w w' := by
  obtain ⟨hnm, A, c, rfl, hcs⟩ := hn.item
  obtain ⟨hlm, A2, c2, rfl, hcs2⟩ := hl.item
  have HC := Lib.hid hcs
  have HC2 := Lib.hid hcs2
  have HOK := Lib.hid okn
  have HOK2 := Lib.hid okl
  clear hn hl okn okl hcs hcs2
  go_enter Tryz.func10, Tryz.ntmps10
  go_wp2_with fail
  (with_reducible refine (new_any _).mono ?_)
  rintro e w1 ⟨q0, rfl, hs1, hx1⟩
  have Z1 := Lib.hid (And.intro hs1 hx1)
  clear hs1 hx1
  go_wp2_with fail
  (with_reducible refine (newLedger_any _).mono ?_)
  rintro e w2 ⟨rfl, hl2, hx2⟩
  have Z2 := Lib.hid (And.intro (IsS.ext hx2 Z1.out.1) (And.intro hl2 (Z1.out.2.trans hx2)))
  have hpw := Z1.out.2.size
  clear hl2 hx2
  go_upto_block 0 with fail
  go_cut [7] (fun s7 wx => ∃ q : Option Addr, s7 = .pointer q ∧ Aside (IsS wx q (stB (now.take 20)) ∧ LAt wx w1.heap.size [] (.slice none 0 0) ∧ Ext w wx ∧ w1.heap.size < wx.heap.size))
  case first =>
   go_wp2_with fail
   go_loopg [7, 9] now.length (fun g a d wx => ∃ (i : Nat) (q : Option Addr), d = .int .i64 i ∧ a = .pointer q ∧ i + g = now.length ∧ i ≤ 20 ∧ Aside (IsS wx q (stB (now.take i)) ∧ LAt wx w1.heap.size [] (.slice none 0 0) ∧ Ext w wx ∧ w1.heap.size < wx.heap.size))
   case atStart => exact ⟨0, q0, rfl, rfl, by omega, by omega, Z2.out.1, Z2.out.2.1, Z2.out.2.2, (Array.getElem?_eq_some_iff.1 Z2.out.2.1.1).1⟩
   case round =>
     obtain ⟨i, q, rfl, rfl, hg, hi20, hA⟩ := hrel
     by_cases hlt : i < now.length ∧ i < 20
     · obtain ⟨hlt, hl20⟩ := hlt
       obtain ⟨b, off, rfl, hb, hcell⟩ := HC.out (by omega)
       obtain ⟨y0, y1, y2, y3, y4⟩ := hcell i hlt
       have hX := hA.out.2.2.1
       have z0 := hX.cell_some y0
       have z1 := hX.cell_some y1
       have z2 := hX.cell_some y2
       have z3 := hX.cell_some y3
       have z4 := hX.cell_some y4
       have hxk := HOK.out _ (List.getElem_mem hlt)
       have hT := Lib.hid (take_snoc now i hlt)
       have hsz := stB_size (now.take i)
       rw [List.length_take] at hsz
       have HOut := Lib.hid (fun W => out_any now[i] hxk W)
       have HEnc := Lib.hid (fun W => encode_ok (itemOut now[i]) (itemOut_chk _) W)
       have HWith := Lib.hid (fun q W hq => swith_any (nameOf now[i]) (valOf now[i]) (nameOf_ok _) (valOf_size _) (fun W => check_out (whoN now[i].who) _ _ (by have := whoN_size now[i].who; omega) (whoN_valid _) (by omega) (by omega) (by omega) (by omega) W) (stB (now.take i)) (stB_ok _) (by omega) (by omega) q W hq)
       have HVal : Hid (valOf now[i] = ⟨(outL (itemOut now[i])).toArray⟩) := Lib.hid rfl
       clear hcell hX y0 y1 y2 y3 y4
       generalize hvv : valOf now[i] = vv at HWith HVal
       have HVV := Lib.hid hvv
       clear hvv
       generalize now[i] = x at *
       obtain ⟨wh, nu, ti, ch, tx⟩ := x
       simp only [itemV, outV, nameOf, outNm, nmV] at HOut HEnc HWith hT z0 z1 z2 z3 z4
       generalize itemOut ⟨wh, nu, ti, ch, tx⟩ = oo at HOut HEnc HVal
       rw [← HVal.out] at HEnc
       obtain ⟨och, otg, otx, ous⟩ := oo
       simp only at HOut HEnc
       obtain ⟨k1, k2, k3, k4, k5⟩ := hxk
       go_wp2_with fail
       (with_reducible refine (HOut.out _).mono ?_)
       rintro e w3 ⟨rfl, hx3⟩
       have hb3 := (hx3.block (b := wr.heap.size) (by simp)).trans (heap_new wr _)
       have c0 := (cells_at hb3).1 0 _ rfl
       have c1 := (cells_at hb3).1 1 _ rfl
       have c2 := (cells_at hb3).1 2 _ rfl
       simp only [List.getElem_toArray, List.getElem_cons_zero, List.getElem_cons_succ] at c0 c1 c2
       have hxw3 : Ext wr w3 := ((Ext.refl wr).alloc _).trans hx3
       have Z3 := Lib.hid hxw3
       clear hb3 hx3 hxw3
       go_wp2_with fail
       (with_reducible refine (HEnc.out _).mono ?_)
       rintro e w4 ⟨rfl, hx4⟩
       have d0 := hx4.cell_some c0
       have d1 := hx4.cell_some c1
       have d2 := hx4.cell_some c2
       have Z4 := Lib.hid (Z3.out.trans hx4)
       have hS4 := IsS.ext Z4.out hA.out.1
       have HS4 := Lib.hid hS4
       clear hx4 c0 c1 c2 hS4
       go_wp2_with fail
       have hD := Ext.refl w4
       have q1 : (wh : Int).tmod 3 = ((wh % 3 : Nat) : Int) := tmod_nat wh 3
       have q2 : (nu : Int).tmod 4 = ((nu % 4 : Nat) : Int) := tmod_nat nu 4
       have q3 : (ti : Int).tmod 8 = ((ti % 8 : Nat) : Int) := tmod_nat ti 8
       have q4 := who_index wh
       have q5 : IntKind.i64.wrap ((nu % 4 : Nat) : Int) = ((nu % 4 : Nat) : Int) := IntWalk.i64_in _ (by omega)
       have q6 : IntKind.i64.wrap ((ti % 8 : Nat) : Int) = ((ti % 8 : Nat) : Int) := IntWalk.i64_in _ (by omega)
       have HName := Lib.hid (fun W => name_any (whoN wh) ((nu % 4 : Nat) : Int) ((ti % 8 : Nat) : Int) W)
       simp only [nmV, outNm, namesV] at HName q4
       generalize ((wh % 3 : Nat) : Int) = e1 at *
       generalize he2 : ((nu % 4 : Nat) : Int) = e2 at *
       generalize he3 : ((ti % 8 : Nat) : Int) = e3 at *
       have HE2 := Lib.hid he2
       have HE3 := Lib.hid he3
       clear he2 he3
       have HNames := Lib.hid (fun W => names_any W)
       simp only [namesV] at HNames
       go_region_held3 (fun W => W.cell? ⟨wr.heap.size, 0, none⟩ = some (.int .u8 wh) ∧ W.cell? ⟨wr.heap.size, 1, none⟩ = some (.int .u8 nu) ∧ W.cell? ⟨wr.heap.size, 2, none⟩ = some (.int .u8 ti))
         (exact ⟨Ext.cell_some (w := w4) (by repeat (first | with_reducible assumption | with_reducible exact Ext.refl _ | with_reducible refine Ext.drew ?_ | with_reducible refine Ext.alloc ?_ _ | with_reducible refine Ext.setCell ?_ (Nat.le_refl _) _)) d0, Ext.cell_some (w := w4) (by repeat (first | with_reducible assumption | with_reducible exact Ext.refl _ | with_reducible refine Ext.drew ?_ | with_reducible refine Ext.alloc ?_ _ | with_reducible refine Ext.setCell ?_ (Nat.le_refl _) _)) d1, Ext.cell_some (w := w4) (by repeat (first | with_reducible assumption | with_reducible exact Ext.refl _ | with_reducible refine Ext.drew ?_ | with_reducible refine Ext.alloc ?_ _ | with_reducible refine Ext.setCell ?_ (Nat.le_refl _) _)) d2⟩)
         (first
           | (go_at_call 23; refine (HNames.out _).mono ?_; rintro e w5 ⟨rfl, hx5⟩; have hD5 := Ext.trans (a := w4) (by repeat (first | with_reducible assumption | with_reducible exact Ext.refl _ | with_reducible refine Ext.drew ?_ | with_reducible refine Ext.alloc ?_ _ | with_reducible refine Ext.setCell ?_ (Nat.le_refl _) _)) hx5)
           | (go_at_call 31; refine (HName.out _).mono ?_; rintro e w6 ⟨rfl, hx6⟩; have hD6 := Ext.trans (a := w4) (by repeat (first | with_reducible assumption | with_reducible exact Ext.refl _ | with_reducible refine Ext.drew ?_ | with_reducible refine Ext.alloc ?_ _ | with_reducible refine Ext.setCell ?_ (Nat.le_refl _) _)) hx6)
           | (go_at_call 30; refine (HWith.out _ _ (IsS.ext (w := w4) (by repeat (first | with_reducible assumption | with_reducible exact Ext.refl _ | with_reducible refine Ext.drew ?_ | with_reducible refine Ext.alloc ?_ _ | with_reducible refine Ext.setCell ?_ (Nat.le_refl _) _)) HS4.out)).mono ?_; rintro e w7 ⟨q', rfl, hs7, hx7⟩; have HS7 := Lib.hid hs7; clear hs7; have hD7 := Ext.trans (a := w4) (by repeat (first | with_reducible assumption | with_reducible exact Ext.refl _ | with_reducible refine Ext.drew ?_ | with_reducible refine Ext.alloc ?_ _ | with_reducible refine Ext.setCell ?_ (Nat.le_refl _) _)) hx7))
       all_goals
         go_wp2_with fail
         go_roundg (now.length - (i + 1))
         case measure => omega
         case rel =>
           have hx : Ext wr w7 := Z4.out.trans hD7
           refine ⟨i + 1, q', by go_num, rfl, by omega, by omega, ?_, hA.out.2.1.ext hx, hA.out.2.2.1.trans hx, Nat.lt_of_lt_of_le hA.out.2.2.2 hx.size⟩
           rw [hT.out, stB_snoc, HVV.out]
           unfold nameOf outNm
           rw [HE2.out, HE3.out]
           exact HS7.out
     · have hn20 : now.take i = now.take 20 := by
         rcases (show i = now.length ∨ i = 20 by omega) with h | h
         · rw [h, List.take_length, List.take_of_length_le (by omega)]
         · rw [h]
       have hA' := hA.out
       rw [hn20] at hA'
       have HA' := Lib.hid hA'
       clear hA hA' hn20
       rcases (show ¬ i < now.length ∨ (i < now.length ∧ ¬ i < 20) by omega) with h1 | ⟨h1, h2⟩
       all_goals
         clear hlt
         go_wp2_with fail
         go_meet
         exact ⟨_, rfl, HA'.out⟩
  case rest =>
    obtain ⟨q, rfl, hA1⟩ := hcut
    obtain ⟨W3, rfl⟩ : ∃ W3 : World, W3 = wc := ⟨_, rfl⟩
    have HA' := Lib.hid hA1.out
    have hpw3 := hA1.out.2.2.2
    clear hA1
    go_wp2_with fail
    go_loopg [15] left.length (fun g a wx => ∃ (i : Nat) (v : Value), a = .int .i64 i ∧ i + g = left.length ∧ i ≤ 20 ∧ Aside (LAt wx w1.heap.size (ledB 0 (left.take i)) v ∧ Fr w1.heap.size (.slice none 0 0) W3 wx ∧ Own2 W3.heap.size (.slice none 0 0) v))
    case atStart => exact ⟨0, _, rfl, by omega, by omega, HA'.out.2.1, Fr.refl _ _ _, .inl rfl⟩
    case round =>
      obtain ⟨j, v, rfl, hg2, hj20, hA⟩ := hrel
      by_cases hlt2 : j < left.length ∧ j < 20
      · obtain ⟨hlt2, hl20⟩ := hlt2
        obtain ⟨b, off, rfl, hb, hcell⟩ := HC2.out (by omega)
        obtain ⟨y0, y1, y2, y3, y4⟩ := hcell j hlt2
        have hXw : Ext w wr := hA.out.2.1.ext HA'.out.2.2.1 hpw (fun g e => by cases e)
        have z0 := hXw.cell_some y0
        have z1 := hXw.cell_some y1
        have z2 := hXw.cell_some y2
        have z3 := hXw.cell_some y3
        have z4 := hXw.cell_some y4
        have hxk := HOK2.out _ (List.getElem_mem hlt2)
        have hT := Lib.hid (take_snoc left j hlt2)
        have HOut := Lib.hid (fun W => out_any left[j] hxk W)
        have hlen : (left.take j).length = j := by rw [List.length_take]; omega
        have hchk := left_chk (left.take j) left[j] (by omega)
        rw [hlen] at hchk
        have HLeave := Lib.hid (fun v W hL => leave_ok w1.heap.size (ledB 0 (left.take j)) v (leftOf j left[j]) ⟨by have := whoN_size left[j].who; show (whoN left[j].who).size ≤ _; omega, by show (⟨#[116]⟩ : ByteArray).size ≤ _; decide, by have := cut20_size left[j].text; show (cut20 left[j].text).size ≤ _; omega⟩ hchk (by rw [ledB_len]; omega) W hL)
        clear hcell hXw y0 y1 y2 y3 y4 hchk
        generalize left[j] = x at *
        obtain ⟨wh, nu, ti, ch, tx⟩ := x
        simp only [itemV, outV, itemOut] at HOut hT z0 z1 z2 z3 z4
        simp only [leftV, leftOf, entI, itemOut] at HLeave
        obtain ⟨k1, k2, k3, k4, k5⟩ := hxk
        have HL := Lib.hid hA.out.1
        go_upto_region 15 with fail
        obtain ⟨W4, hW4⟩ : ∃ W4, wr.alloc (.cells #[.int .u8 wh, .int .u8 nu, .int .u8 ti, .int .u8 ch, .string tx] 84) = W4 := ⟨_, rfl⟩
        have hx4 : Ext wr W4 := by rw [← hW4]; exact (Ext.refl wr).alloc _
        have hb4 : W4.heap[wr.heap.size]? = some (.cells #[.int .u8 wh, .int .u8 nu, .int .u8 ti, .int .u8 ch, .string tx] 84) := by rw [← hW4]; exact heap_new wr _
        have d0 := (cells_at hb4).1 0 _ rfl
        have d1 := (cells_at hb4).1 1 _ rfl
        have d2 := (cells_at hb4).1 2 _ rfl
        have d3 := (cells_at hb4).1 3 _ rfl
        have d4 := (cells_at hb4).1 4 _ rfl
        simp only [List.getElem_toArray, List.getElem_cons_zero, List.getElem_cons_succ] at d0 d1 d2 d3 d4
        rw [hW4]
        have HX4 := Lib.hid hx4
        clear hW4 hb4 hx4
        have q1 : (wh : Int).tmod 3 = ((wh % 3 : Nat) : Int) := tmod_nat wh 3
        have q2 : (nu : Int).tmod 4 = ((nu % 4 : Nat) : Int) := tmod_nat nu 4
        have q3 : (ti : Int).tmod 8 = ((ti % 8 : Nat) : Int) := tmod_nat ti 8
        have q4 := who_index wh
        have q5 : IntKind.i64.wrap ((nu % 4 : Nat) : Int) = ((nu % 4 : Nat) : Int) := IntWalk.i64_in _ (by omega)
        have q6 : IntKind.i64.wrap ((ti % 8 : Nat) : Int) = ((ti % 8 : Nat) : Int) := IntWalk.i64_in _ (by omega)
        have q7 : IntKind.i64.wrap (9 + (j : Int)) = 9 + (j : Int) := IntWalk.i64_in _ (by omega)
        have q8 : (j : Int).tdiv 5 = ((j / 5 : Nat) : Int) := by rw [Int.tdiv_eq_ediv_of_nonneg (by omega)]; omega
        have q9 : IntKind.i64.wrap ((j / 5 : Nat) : Int) = ((j / 5 : Nat) : Int) := IntWalk.i64_in _ (by omega)
        have HNames := Lib.hid (fun W => names_any W)
        simp only [namesV] at HNames q4
        have HLV : Hid (leftOf j ⟨wh, nu, ti, ch, tx⟩ = ⟨⟨whoN wh, ((nu % 4 : Nat) : Int), ((ti % 8 : Nat) : Int), ⟨1 + ((ch % 4 : Nat) : Int), ⟨#[116]⟩, cut20 tx, 5⟩⟩, 9 + (j : Int), ((j / 5 : Nat) : Int)⟩) := Lib.hid rfl
        generalize ((wh % 3 : Nat) : Int) = e1 at q1 q4
        generalize ((nu % 4 : Nat) : Int) = e2 at q2 q5 HLeave HLV
        generalize ((ti % 8 : Nat) : Int) = e3 at q3 q6 HLeave HLV
        generalize ((j / 5 : Nat) : Int) = e5 at q8 q9 HLeave HLV
        generalize hec : (1 + ((ch % 4 : Nat) : Int)) = ec at HOut HLeave HLV
        clear hec
        generalize hcu : cut20 tx = cu at HOut HLeave HLV
        clear hcu
        generalize hwn : whoN wh = wn at q4 HLeave HLV
        clear hwn
        go_cut [17] (fun t17 wx => ∃ B, t17 = .pointer (some ⟨B, 0, none⟩) ∧ wx.heap[B]? = some (.cells #[.string wn, .int .i64 e2, .int .i64 e3, .int .i64 ec, .string ⟨#[116]⟩, .string cu, .int .i64 5, .int .i64 (9 + (j : Int)), .int .i64 e5] 52 (0, 0)) ∧ Ext W4 wx)
        case first =>
          clear hA HLeave HL HLV hT z0 z1 z2 z3 z4 HC2 HC HOK HOK2 HA' Z1 Z2 HX4 hlen hb k1 k2 k3 k4 k5 hg2 hj20 hl20 hlt2 hpw3 hpw hnm hlm
          have hD := Ext.refl W4
          go_region_held3 (fun W => W.cell? ⟨wr.heap.size, 0, none⟩ = some (.int .u8 wh) ∧ W.cell? ⟨wr.heap.size, 1, none⟩ = some (.int .u8 nu) ∧ W.cell? ⟨wr.heap.size, 2, none⟩ = some (.int .u8 ti) ∧ W.cell? ⟨wr.heap.size, 3, none⟩ = some (.int .u8 ch) ∧ W.cell? ⟨wr.heap.size, 4, none⟩ = some (.string tx))
            (exact ⟨Ext.cell_some (w := W4) (by repeat (first | with_reducible assumption | with_reducible exact Ext.refl _ | with_reducible refine Ext.drew ?_ | with_reducible refine Ext.alloc ?_ _ | with_reducible refine Ext.setCell ?_ (Nat.le_refl _) _ | with_reducible refine Ext.setCell ?_ hD5.size _)) d0, Ext.cell_some (w := W4) (by repeat (first | with_reducible assumption | with_reducible exact Ext.refl _ | with_reducible refine Ext.drew ?_ | with_reducible refine Ext.alloc ?_ _ | with_reducible refine Ext.setCell ?_ (Nat.le_refl _) _ | with_reducible refine Ext.setCell ?_ hD5.size _)) d1, Ext.cell_some (w := W4) (by repeat (first | with_reducible assumption | with_reducible exact Ext.refl _ | with_reducible refine Ext.drew ?_ | with_reducible refine Ext.alloc ?_ _ | with_reducible refine Ext.setCell ?_ (Nat.le_refl _) _ | with_reducible refine Ext.setCell ?_ hD5.size _)) d2, Ext.cell_some (w := W4) (by repeat (first | with_reducible assumption | with_reducible exact Ext.refl _ | with_reducible refine Ext.drew ?_ | with_reducible refine Ext.alloc ?_ _ | with_reducible refine Ext.setCell ?_ (Nat.le_refl _) _ | with_reducible refine Ext.setCell ?_ hD5.size _)) d3, Ext.cell_some (w := W4) (by repeat (first | with_reducible assumption | with_reducible exact Ext.refl _ | with_reducible refine Ext.drew ?_ | with_reducible refine Ext.alloc ?_ _ | with_reducible refine Ext.setCell ?_ (Nat.le_refl _) _ | with_reducible refine Ext.setCell ?_ hD5.size _)) d4⟩)
            (first
              | (go_at_call 23; refine (HNames.out (World.drew (World.alloc W4 _))).mono ?_; rintro e w5 ⟨rfl, hx5⟩; have hD5 := Ext.trans (a := W4) (by repeat (first | with_reducible assumption | with_reducible exact Ext.refl _ | with_reducible refine Ext.drew ?_ | with_reducible refine Ext.alloc ?_ _ | with_reducible refine Ext.setCell ?_ (Nat.le_refl _) _)) hx5; have hhA := (hx5.block (b := W4.heap.size) (by simp)).trans (heap_new W4 _); have HHA := Lib.hid hhA; clear hhA)
              | (go_at_call 23; refine (HNames.out _).mono ?_; rintro e w5 ⟨rfl, hx5⟩; have hD5 := Ext.trans (a := W4) (by repeat (first | with_reducible assumption | with_reducible exact Ext.refl _ | with_reducible refine Ext.drew ?_ | with_reducible refine Ext.alloc ?_ _ | with_reducible refine Ext.setCell ?_ (Nat.le_refl _) _)) hx5)
              | (go_at_call 29; refine (HOut.out (World.alloc w5 _)).mono ?_; rintro e w6 ⟨rfl, hx6⟩; have hD6 := Ext.trans (a := W4) (by repeat (first | with_reducible assumption | with_reducible exact Ext.refl _ | with_reducible refine Ext.drew ?_ | with_reducible refine Ext.alloc ?_ _ | with_reducible refine Ext.setCell ?_ (Nat.le_refl _) _)) hx6; have hhB := (hx6.block (b := w5.heap.size) (by simp)).trans (heap_new w5 _); have fc0 := (cells_at hhB).1 0 _ rfl; have ff0 := (cells_at hhB).2 0; have fc1 := (cells_at hhB).1 1 _ rfl; have ff1 := (cells_at hhB).2 1; have fc2 := (cells_at hhB).1 2 _ rfl; have ff2 := (cells_at hhB).2 2; have fc3 := (cells_at hhB).1 3 _ rfl; have ff3 := (cells_at hhB).2 3; have fc4 := (cells_at hhB).1 4 _ rfl; have ff4 := (cells_at hhB).2 4; have fc5 := (cells_at hhB).1 5 _ rfl; have ff5 := (cells_at hhB).2 5; have fc6 := (cells_at hhB).1 6 _ rfl; have ff6 := (cells_at hhB).2 6; have fc7 := (cells_at hhB).1 7 _ rfl; have ff7 := (cells_at hhB).2 7; have fc8 := (cells_at hhB).1 8 _ rfl; have ff8 := (cells_at hhB).2 8; simp only [List.getElem_toArray, List.getElem_cons_zero, List.getElem_cons_succ] at fc0 fc1 fc2 fc3 fc4 fc5 fc6 fc7 fc8; have HHB := Lib.hid hhB; clear hhB)
              | (go_at_call 29; refine (HOut.out w5).mono ?_; rintro e w6 ⟨rfl, hx6⟩; have hD6 := Ext.trans (a := W4) (by repeat (first | with_reducible assumption | with_reducible exact Ext.refl _ | with_reducible refine Ext.drew ?_ | with_reducible refine Ext.alloc ?_ _ | with_reducible refine Ext.setCell ?_ (Nat.le_refl _) _)) hx6; have hhB := (hx6.block (Array.getElem?_eq_some_iff.1 HHA.out).1).trans HHA.out; have fc0 := (cells_at hhB).1 0 _ rfl; have ff0 := (cells_at hhB).2 0; have fc1 := (cells_at hhB).1 1 _ rfl; have ff1 := (cells_at hhB).2 1; have fc2 := (cells_at hhB).1 2 _ rfl; have ff2 := (cells_at hhB).2 2; have fc3 := (cells_at hhB).1 3 _ rfl; have ff3 := (cells_at hhB).2 3; have fc4 := (cells_at hhB).1 4 _ rfl; have ff4 := (cells_at hhB).2 4; have fc5 := (cells_at hhB).1 5 _ rfl; have ff5 := (cells_at hhB).2 5; have fc6 := (cells_at hhB).1 6 _ rfl; have ff6 := (cells_at hhB).2 6; have fc7 := (cells_at hhB).1 7 _ rfl; have ff7 := (cells_at hhB).2 7; have fc8 := (cells_at hhB).1 8 _ rfl; have ff8 := (cells_at hhB).2 8; simp only [List.getElem_toArray, List.getElem_cons_zero, List.getElem_cons_succ] at fc0 fc1 fc2 fc3 fc4 fc5 fc6 fc7 fc8; have HHB := Lib.hid hhB; clear hhB)
              | (go_at_call 29; refine (HOut.out w5).mono ?_; rintro e w6 ⟨rfl, hx6⟩; have hD6 := Ext.trans (a := W4) (by repeat (first | with_reducible assumption | with_reducible exact Ext.refl _ | with_reducible refine Ext.drew ?_ | with_reducible refine Ext.alloc ?_ _ | with_reducible refine Ext.setCell ?_ (Nat.le_refl _) _)) hx6))
          all_goals (go_wp2_with fail; go_meet)
          all_goals trace "MET"
          all_goals first
            | (with_reducible exact ⟨w6.heap.size, rfl, heap_new w6 _, Ext.alloc hD6 _⟩)
            | (with_reducible exact ⟨W4.heap.size, rfl, set9 HHB.out _ _ _ _ _ _ _ _ _, ext_set9 hD6 (Nat.le_refl _) _ _ _ _ _ _ _ _ _⟩)
            | (with_reducible exact ⟨w5.heap.size, rfl, set9 HHB.out _ _ _ _ _ _ _ _ _, ext_set9 hD6 hD5.size _ _ _ _ _ _ _ _ _⟩)
        case rest =>
          obtain ⟨B, rfl, hBc, hBx⟩ := hcut
          clear d0 d1 d2 d3 d4 q1 q2 q3 q4 q5 q6 q7 q8 q9 z0 z1 z2 z3 z4 hb
          have HBx := Lib.hid (HX4.out.trans hBx)
          have hL2 := HL.out.ext HBx.out
          have HL2 := Lib.hid hL2
          have fc0 := (cells_at hBc).1 0 _ rfl
          have fc1 := (cells_at hBc).1 1 _ rfl
          have fc2 := (cells_at hBc).1 2 _ rfl
          have fc3 := (cells_at hBc).1 3 _ rfl
          have fc4 := (cells_at hBc).1 4 _ rfl
          have fc5 := (cells_at hBc).1 5 _ rfl
          have fc6 := (cells_at hBc).1 6 _ rfl
          have fc7 := (cells_at hBc).1 7 _ rfl
          have fc8 := (cells_at hBc).1 8 _ rfl
          simp only [List.getElem_toArray, List.getElem_cons_zero, List.getElem_cons_succ] at fc0 fc1 fc2 fc3 fc4 fc5 fc6 fc7 fc8
          clear hBx hL2 hBc
          go_wp2_with fail
          (with_reducible refine (HLeave.out v _ HL2.out).mono ?_)
          rintro e w7 ⟨rfl, v', hL7, hF7, hO7⟩
          have HZ := Lib.hid (And.intro hL7 (And.intro hF7 hO7))
          clear hL7 hF7 hO7 fc0 fc1 fc2 fc3 fc4 fc5 fc6 fc7 fc8
          go_wp2_with fail
          go_roundg (left.length - (j + 1))
          case measure => omega
          case rel =>
            have hFw := (hA.out.2.1.trans (Fr.of_ext HBx.out) (.inl rfl)).trans HZ.out.2.1 hA.out.2.2
            refine ⟨j + 1, v', by go_num, by omega, by omega, ?_, hFw, hA.out.2.2.trans HZ.out.2.2 (Nat.le_trans hA.out.2.1.size HBx.out.size)⟩
            rw [hT.out, ledB_snoc, hlen, Nat.zero_add, HLV.out]
            exact HZ.out.1
      · have hn20 : left.take j = left.take 20 := by
          rcases (show j = left.length ∨ j = 20 by omega) with h | h
          · rw [h, List.take_length, List.take_of_length_le (by omega)]
          · rw [h]
        have hA' := hA.out
        rw [hn20] at hA'
        have HA2 := Lib.hid hA'
        clear hA hA' hn20
        rcases (show ¬ j < left.length ∨ (j < left.length ∧ ¬ j < 20) by omega) with h1 | ⟨h1, h2⟩
        all_goals
          clear hlt2
          go_wp2_with fail
          go_ret3
          refine ⟨q, w1.heap.size, v, rfl, ?_, HA2.out.1, hpw, HA2.out.2.1.ext HA'.out.2.2.1 hpw (fun g e => by cases e)⟩
          exact IsS.fr HA'.out.1 HA'.out.2.1.1 HA2.out.2.1
end Go.Proofs.YtehmgeodpjmfaaaGreatDoor

