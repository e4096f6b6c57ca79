/- law 50: ConsequenceNothing, the walk. -/
import Derived.Deep.LoopGhost
import Derived.Test.YtehmgeodpjmfaaaGreatDoorKnown2
import Derived.Test.YtehmgeodpjmfaaaGreatDoorDiff
import Derived.Test.YtehmgeodpjmfaaaGreatDoorBools
import Derived.Test.YtehmgeodpjmfaaaGreatDoorNothingPure
namespace Go.Proofs.YtehmgeodpjmfaaaGreatDoor
open Go.RowKit

def encU8 (k : Nat) : List Value := [.int .u8 k]
theorem LAt.own_ge {w : World} {p : Nat} {l : List LeftS} {v : Value} (h : LAt w p l v) {k : Nat} (hk : v.ownBlock = some k) : p ≤ k ∧ k < w.heap.size := h.2.lt k hk
set_option maxHeartbeats 8000000 in
set_option maxRecDepth 100000 in
theorem nothing_any (nv ov : Value) (now : List ItemS) (order : List Nat) (w : World) (hn : Rd w 5 encI5 nv now) (ho : Rd w 1 encU8 ov order) (okn : ∀ x ∈ now, ItemOk x) (oko : ∀ k ∈ order, k < 256) :
    Calls Tryz.prog 6 #[nv, ov] w fun e w' => e = .returned (.bool true) ∧ Ext w w' := by
  have HB := Lib.hid (build_any nv (.slice none 0 0) now [] w hn (Rd.nil _ _ _) okn (fun x hx => by cases hx))
  obtain ⟨hmo, Ao, co, rfl, hco⟩ := ho
  have HCO := Lib.hid hco
  have HOK := Lib.hid oko
  clear hn okn hco oko
  have h20 : (now.take 20).length ≤ 20 := List.length_take_le _ _
  have HAL := Lib.hid (fun q W hW => all_any (stB (now.take 20)) q W hW (stB_ok _) (stB_val _) (by have := (stB_size (now.take 20)).1; omega))
  have hal : (allL (stB (now.take 20))).length ≤ 20 := by
    unfold allL
    refine Nat.le_trans (List.length_filterMap_le _ _) (Nat.le_trans (List.length_filter_le _ _) ?_)
    rw [List.length_map, ← BT.sz_eq]
    have := (stB_size (now.take 20)).1
    omega
  have HCHK := Lib.hid (fun n0 i S L (h : NoS (allL (stB (now.take 20))) n0 i S L) hi e he => left100_chk h hi e he)
  have HCMP := Lib.hid (fun L q p v W hS hL (hl : L.length ≤ 1000000) hE => compare_any (stB (now.take 20)) q p L v W hS (stB_ok _) (stB_val _) (by have := (stB_size (now.take 20)).1; omega) hL hl (allL_ok _) hE)
  have HAO := Lib.hid (allL_ok (now.take 20))
  generalize allL (stB (now.take 20)) = all at HAL hal HCHK HCMP HAO
  generalize stB (now.take 20) = t at HB HAL HCMP
  rw [show ledB 0 (([] : List ItemS).take 20) = [] from rfl] at HB
  clear h20
  have hmb := make_bools' all.length (by omega)
  go_enter Tryz.func6, Tryz.ntmps6
  go_wp2_with fail
  (with_reducible refine HB.out.mono ?_)
  rintro e w1 ⟨q, p, v, rfl, hS1, hL1, _, hx1⟩
  have Z1 := Lib.hid (And.intro hS1 hx1)
  clear hS1 hL1 hx1 HB
  go_wp2_with fail
  (with_reducible refine (known_any _).mono ?_)
  rintro e w2 ⟨rfl, hx2⟩
  have Z2 := Lib.hid (And.intro (IsS.ext hx2 Z1.out.1) (Z1.out.2.trans hx2))
  clear hx2 Z1
  by_cases h60 : order.length ≤ 60
  case neg =>
    have hdd : decide ((60 : Int) < (order.length : Int)) = true := by simp; omega
    go_wp2_with fail
    (with_reducible refine (known_any _).mono ?_)
    rintro e w3 ⟨rfl, hx3⟩
    have HX3 := Lib.hid (Z2.out.2.trans hx3)
    clear hx3
    go_wp2_with fail
    go_ret
    exact ⟨rfl, HX3.out⟩
  case pos =>
    have hdd : decide ((60 : Int) < (order.length : Int)) = false := by simp; omega
    have HA4 := Lib.hid (HAL.out q _ Z2.out.1)
    go_wp2_with fail
    (with_reducible refine HA4.out.mono ?_)
    rintro e w5 ⟨av, rfl, hr5, hx5⟩
    obtain ⟨hm5, A5, c5, rfl, hcs5⟩ := hr5
    have HC5 := Lib.hid hcs5
    have Z5 := Lib.hid (And.intro (IsS.ext hx5 Z2.out.1) (Z2.out.2.trans hx5))
    clear hcs5 hx5 HA4 Z2
    go_wp2_with fail
    (with_reducible refine (newLedger_any _).mono ?_)
    rintro e w6 ⟨rfl, hl6, hx6⟩
    have hs6 : w5.heap.size < w6.heap.size := (Array.getElem?_eq_some_iff.1 hl6.1).1
    obtain ⟨N, hN⟩ : ∃ N, N = order.length + all.length := ⟨_, rfl⟩
    have hqN : IntKind.i64.wrap ((order.length : Int) + (all.length : Int)) = (N : Int) := by rw [hN, IntWalk.i64_in _ (by omega)]; omega
    have h0 : Hid (BoolsAt (w6.alloc (.cells (Array.replicate all.length (.bool false)) 4)) w6.heap.size (List.replicate all.length false) ∧ LAt (w6.alloc (.cells (Array.replicate all.length (.bool false)) 4)) w5.heap.size [] (.slice none 0 0) ∧ Ext w5 (w6.alloc (.cells (Array.replicate all.length (.bool false)) 4))) :=
      Lib.hid ⟨BoolsAt.made' w6 _, hl6.ext ((Ext.refl w6).alloc _), hx6.alloc _⟩
    clear hl6 hx6
    go_wp2_with fail
    go_loopg [11] N (fun g a wx => ∃ (i : Nat) (S : List Bool) (L : List LeftS) (v : Value), a = .int .i64 i ∧ i + g = N ∧ Aside (BoolsAt wx w6.heap.size S ∧ LAt wx w5.heap.size L v ∧ some w6.heap.size ≠ v.ownBlock ∧ NoS all order.length i S L ∧ Ext w5 wx))
    case atStart => exact ⟨0, _, [], .slice none 0 0, rfl, by omega, h0.out.1, h0.out.2.1, (fun e => by cases e), NoS.start _ _, h0.out.2.2⟩
    case round =>
      obtain ⟨i, S, L, v, rfl, hg, hA⟩ := hrel
      clear h0
      by_cases hlt : i < N
      · by_cases hio : i < order.length
        · obtain ⟨d, hd⟩ : ∃ d, IntKind.i64.wrap ((i : Int) - (order.length : Int)) = d := ⟨_, rfl⟩
          obtain ⟨bo, offo, rfl, hbo, hcello⟩ := HCO.out (by omega)
          have hyo := hcello i hio 0 _ rfl
          have hok := HOK.out _ (List.getElem_mem hio)
          generalize order[i] = x at hyo hok
          have z0 := (Z5.out.2.trans hA.out.2.2.2.2).cell_some hyo
          simp only [Nat.mul_one, Nat.add_zero] at z0
          clear hyo hcello
          by_cases hn0 : all.length = 0
          · go_wp2_with fail
            go_roundg (N - (i + 1))
            case measure => omega
            case rel => exact ⟨i + 1, S, L, v, by go_num, by omega, hA.out.1, hA.out.2.1, hA.out.2.2.1, hA.out.2.2.2.1.skip (fun k h _ => by omega), hA.out.2.2.2.2⟩
          · obtain ⟨k, hkx⟩ : ∃ k, k = x % all.length := ⟨_, rfl⟩
            have hk : k < all.length := by rw [hkx]; exact Nat.mod_lt _ (by omega)
            have q0 : IntKind.i64.wrap (x : Int) = x := IntWalk.i64_in _ (by omega)
            have q1 : (x : Int).tmod (all.length : Int) = (k : Int) := by rw [Int.tmod_eq_emod_of_nonneg (by omega), hkx]; omega
            have q2 : IntKind.i64.wrap (k : Int) = (k : Int) := IntWalk.i64_in _ (by omega)
            have HKK : Hid (i < order.length ∨ k + order.length = i) := Lib.hid (.inl hio)
            clear hkx
            have hSl := hA.out.2.2.2.1.len
            obtain ⟨cb, cf⟩ := hA.out.1.cell k (by omega)
            clear hbo
            obtain ⟨b, off, rfl, hb, hcell⟩ := HC5.out (by omega)
            have hy := hcell k hk
            have HEM := Lib.hid (List.getElem_mem hk)
            have HADD := Lib.hid (hA.out.2.2.2.1.add k hk HKK.out)
            have hchk := HCHK.out _ _ _ _ hA.out.2.2.2.1 (by omega) _ (List.getElem_mem hk)
            have HLV := Lib.hid (fun W hW => leave_ok w5.heap.size L v (left100 all[k]) hchk.2 hchk.1 (by have := hA.out.2.2.2.1.small; omega) W hW)
            generalize all[k] = en at hy HEM HADD HLV
            obtain ⟨ow, nu, ti, ⟨ch, tg, tx, us⟩⟩ := en
            simp only [leftV, left100] at HLV
            clear hchk hcell
            go_upto_region 16 with fail
            have hg7 := setCell_grown wr w6.heap.size k (.bool true)
            have hE7 : Ext w5 (wr.setCell ⟨w6.heap.size, k, none⟩ (.bool true)) := hA.out.2.2.2.2.setCell (by simp; omega) _
            have hB7 := hA.out.1.set k true
            have hL7 : LAt (wr.setCell ⟨w6.heap.size, k, none⟩ (.bool true)) w5.heap.size L v := ⟨(hg7.block _ (Array.getElem?_eq_some_iff.1 hA.out.2.1.1).1 (by simp; omega)).trans hA.out.2.1.1, hA.out.2.1.2.kept hg7 (.inr (fun e => hA.out.2.2.1 e.symm))⟩
            generalize wr.setCell ⟨w6.heap.size, k, none⟩ (.bool true) = W7 at hE7 hB7 hL7 ⊢
            have y0 := hE7.cell_some (hy 0 (.string ow) rfl)
            have y1 := hE7.cell_some (hy 1 (.int .i64 nu) rfl)
            have y2 := hE7.cell_some (hy 2 (.int .i64 ti) rfl)
            have y3 := hE7.cell_some (hy 3 (.int .i64 ch) rfl)
            have y4 := hE7.cell_some (hy 4 (.string tg) rfl)
            have y5 := hE7.cell_some (hy 5 (.string tx) rfl)
            have y6 := hE7.cell_some (hy 6 (.int .i64 us) rfl)
            simp only [Nat.add_zero] at y0
            have Z7 := Lib.hid (And.intro hE7 (And.intro hB7 hL7))
            clear hE7 hB7 hL7 hg7 hy cb cf
            go_wp2_with fail
            (with_reducible refine (HLV.out _ Z7.out.2.2).mono ?_)
            rintro e w8 ⟨rfl, v', hL8, hF8, hO8⟩
            have Z8 := Lib.hid (And.intro hL8 (And.intro hF8 hO8))
            clear hL8 hF8 hO8
            go_wp2_with fail
            go_roundg (N - (i + 1))
            case measure => omega
            case rel =>
              obtain ⟨hL8, hF8, hO8⟩ := Z8.out
              obtain ⟨hE7, hB7, hL7⟩ := Z7.out
              have hne := hA.out.2.2.1
              refine ⟨i + 1, _, _, v', by go_num, by omega, hB7.fr hF8 (by omega) hne, hL8, ?_, HADD.out, hF8.ext hE7 (Nat.le_refl _) (fun g e => (hL7.own_ge e).1)⟩
              rcases hO8 with h | ⟨g, hg1, h⟩
              · rw [h]; exact hne
              · rw [h]; intro e; cases e; have := hB7.lt; omega
        · obtain ⟨k, hkx⟩ : ∃ k, i = k + order.length := ⟨i - order.length, by omega⟩
          have hk : k < all.length := by omega
          have hd : IntKind.i64.wrap ((i : Int) - (order.length : Int)) = (k : Int) := by rw [IntWalk.i64_in _ (by omega)]; omega
          have HKK : Hid (i < order.length ∨ k + order.length = i) := Lib.hid (.inr hkx.symm)
          have hbo : True := trivial
          clear hkx
          have hSk : k < S.length := by rw [hA.out.2.2.2.1.len]; exact hk
          obtain ⟨cb0, _⟩ := hA.out.1.cell k hSk
          have hSb : S[k]? = some S[k] := List.getElem?_eq_getElem hSk
          have hSb := Lib.hid hSb
          cases hb0 : S[k] with
          | true =>
            rw [hb0] at cb0
            go_wp2_with fail
            go_roundg (N - (i + 1))
            case measure => omega
            case rel =>
              refine ⟨i + 1, S, L, v, by go_num, by omega, hA.out.1, hA.out.2.1, hA.out.2.2.1, hA.out.2.2.2.1.skip (fun k' h h2 => ?_), hA.out.2.2.2.2⟩
              have : k' = k := by
                rcases HKK.out with h3 | h3
                · exact absurd h3 hio
                · omega
              subst this
              rw [hSb.out, hb0]
          | false =>
            rw [hb0] at cb0
            have hSl := hA.out.2.2.2.1.len
            obtain ⟨cb, cf⟩ := hA.out.1.cell k (by omega)
            clear hbo
            obtain ⟨b, off, rfl, hb, hcell⟩ := HC5.out (by omega)
            have hy := hcell k hk
            have HEM := Lib.hid (List.getElem_mem hk)
            have HADD := Lib.hid (hA.out.2.2.2.1.add k hk HKK.out)
            have hchk := HCHK.out _ _ _ _ hA.out.2.2.2.1 (by omega) _ (List.getElem_mem hk)
            have HLV := Lib.hid (fun W hW => leave_ok w5.heap.size L v (left100 all[k]) hchk.2 hchk.1 (by have := hA.out.2.2.2.1.small; omega) W hW)
            generalize all[k] = en at hy HEM HADD HLV
            obtain ⟨ow, nu, ti, ⟨ch, tg, tx, us⟩⟩ := en
            simp only [leftV, left100] at HLV
            clear hchk hcell
            go_upto_region 16 with fail
            have hg7 := setCell_grown wr w6.heap.size k (.bool true)
            have hE7 : Ext w5 (wr.setCell ⟨w6.heap.size, k, none⟩ (.bool true)) := hA.out.2.2.2.2.setCell (by simp; omega) _
            have hB7 := hA.out.1.set k true
            have hL7 : LAt (wr.setCell ⟨w6.heap.size, k, none⟩ (.bool true)) w5.heap.size L v := ⟨(hg7.block _ (Array.getElem?_eq_some_iff.1 hA.out.2.1.1).1 (by simp; omega)).trans hA.out.2.1.1, hA.out.2.1.2.kept hg7 (.inr (fun e => hA.out.2.2.1 e.symm))⟩
            generalize wr.setCell ⟨w6.heap.size, k, none⟩ (.bool true) = W7 at hE7 hB7 hL7 ⊢
            have y0 := hE7.cell_some (hy 0 (.string ow) rfl)
            have y1 := hE7.cell_some (hy 1 (.int .i64 nu) rfl)
            have y2 := hE7.cell_some (hy 2 (.int .i64 ti) rfl)
            have y3 := hE7.cell_some (hy 3 (.int .i64 ch) rfl)
            have y4 := hE7.cell_some (hy 4 (.string tg) rfl)
            have y5 := hE7.cell_some (hy 5 (.string tx) rfl)
            have y6 := hE7.cell_some (hy 6 (.int .i64 us) rfl)
            simp only [Nat.add_zero] at y0
            have Z7 := Lib.hid (And.intro hE7 (And.intro hB7 hL7))
            clear hE7 hB7 hL7 hg7 hy cb cf
            go_wp2_with fail
            (with_reducible refine (HLV.out _ Z7.out.2.2).mono ?_)
            rintro e w8 ⟨rfl, v', hL8, hF8, hO8⟩
            have Z8 := Lib.hid (And.intro hL8 (And.intro hF8 hO8))
            clear hL8 hF8 hO8
            go_wp2_with fail
            go_roundg (N - (i + 1))
            case measure => omega
            case rel =>
              obtain ⟨hL8, hF8, hO8⟩ := Z8.out
              obtain ⟨hE7, hB7, hL7⟩ := Z7.out
              have hne := hA.out.2.2.1
              refine ⟨i + 1, _, _, v', by go_num, by omega, hB7.fr hF8 (by omega) hne, hL8, ?_, HADD.out, hF8.ext hE7 (Nat.le_refl _) (fun g e => (hL7.own_ge e).1)⟩
              rcases hO8 with h | ⟨g, hg1, h⟩
              · rw [h]; exact hne
              · rw [h]; intro e; cases e; have := hB7.lt; omega
      · obtain rfl : i = N := by omega
        have hfin := hA.out.2.2.2.1
        rw [hN] at hfin
        obtain ⟨f1, f2, f3⟩ := hfin.fin
        have HC8 := Lib.hid (HCMP.out L q _ v wr (IsS.ext hA.out.2.2.2.2 Z5.out.1) hA.out.2.1 (by have := hfin.small; omega) (fun x hx => by
          obtain ⟨e, he, rfl⟩ := hfin.only x hx
          exact HAO.out e he))
        have hLl : L.length ≤ 1000 := by have := hfin.small; omega
        generalize compareL all L = C at f1 f2 f3 HC8
        have HA := Lib.hid (And.intro hA.out.2.1 hA.out.2.2.2.2)
        clear hfin hA
        obtain ⟨W7, rfl⟩ : ∃ W7 : World, W7 = wr := ⟨_, rfl⟩
        go_wp2_with fail
        (with_reducible refine HC8.out.mono ?_)
        rintro e w8 ⟨u, rfl, hr8, hx8⟩
        have HCN := Lib.hid (count_any u C w8 hr8 (by omega))
        rw [f2] at HCN
        simp only [c5V] at HCN
        have HR8 := Lib.hid (And.intro hr8 hx8)
        obtain ⟨_, A8, c8, rfl, _⟩ := hr8
        rw [f1] at HCN HR8
        clear HC8 hx8
        go_wp2_with fail
        (with_reducible refine HCN.out.mono ?_)
        rintro e w9 ⟨rfl, hx9⟩
        have hx10 : Ext w8 (w9.alloc (.cells #[.int .i64 ((0 : Nat) : Int), .int .i64 L.length, .int .i64 ((0 : Nat) : Int), .int .i64 ((0 : Nat) : Int), .int .i64 ((0 : Nat) : Int)] 53)) := hx9.alloc _
        have HLN := Lib.hid (fun W hW => llen_any w5.heap.size L v W hW)
        have HXA := Lib.hid (HR8.out.2.trans hx9)
        have HDF := Lib.hid (fun W hx => diff_any (.slice A8 L.length c8) C W (HR8.out.1.ext hx) (by omega))
        rw [f3] at HDF
        have HX9 := Lib.hid hx9
        clear hx9 hx10 HCN
        go_wp2_with (first
          | (go_at_call 13; (with_reducible refine (HLN.out _ ((HA.out.1.ext HXA.out).ext ((Ext.refl w9).alloc _))).mono ?_); rintro e w' ⟨rfl, rfl⟩)
          | (go_at_call 20; (with_reducible refine (HDF.out _ (HX9.out.alloc _)).mono ?_); rintro e w11 ⟨ud, rfl, ⟨_, A11, c11, rfl, _⟩, hx11⟩))
        go_ret
        exact ⟨rfl, Z5.out.2.trans (HA.out.2.trans (HXA.out.trans (((Ext.refl w9).alloc _).trans hx11)))⟩
end Go.Proofs.YtehmgeodpjmfaaaGreatDoor
