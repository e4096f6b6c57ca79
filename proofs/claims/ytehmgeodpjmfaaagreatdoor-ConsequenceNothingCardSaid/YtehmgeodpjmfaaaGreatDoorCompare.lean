/- consequence.Compare. -/
import Derived.Carry
import Derived.RegionTactic
import Derived.Deep.DeepCutAuto
import Derived.Deep.CutBlock
import Derived.Test.YtehmgeodpjmfaaaGreatDoorCmpPure
namespace Go.Proofs.YtehmgeodpjmfaaaGreatDoor
open Go.RowKit

theorem info_cons : (Tryz.prog.info? 37).map (fun i => (i.zero, i.size, i.bytes)) = some (some (.agg #[.int .i64 0, .string ⟨#[]⟩, .int .i64 0, .int .i64 0, .int .i64 0, .string ⟨#[]⟩, .string ⟨#[]⟩, .int .i64 0, .int .i64 0, .int .i64 0, .string ⟨#[]⟩, .string ⟨#[]⟩, .int .i64 0, .int .i64 0]), 14, 152) := by kernel_rfl
theorem zero_bool (w : World) : (zeroValue 4).run Tryz.prog w = .ok (.bool false) w := by kernel_rfl
def zeroEnt : Value := .agg #[.string ⟨#[]⟩, .int .i64 0, .int .i64 0, .int .i64 0, .string ⟨#[]⟩, .string ⟨#[]⟩, .int .i64 0]
theorem zero_ent (w : World) : (zeroValue 41).run Tryz.prog w = .ok zeroEnt w := by kernel_rfl
abbrev ThereAt (w : World) (b n : Nat) (l : List EntS) : Prop := MapAt w 41 entL EntOk (.bool false) b n (thereM l)
abbrev FirstAt (w : World) (b n : Nat) (l : List EntS) : Prop := MapAt w 95 slotL SlotOk zeroEnt b n (firstM l)
theorem slotOf_ok {e : EntS} (h : EntOk e) : SlotOk (slotOf e) := ⟨h.1, h.2.1⟩

theorem news_cons (w : World) (b : Nat) (hb : b = w.heap.size) (x : ConsS) (o : Obj) (ho : o = .cells (encC x).toArray 37) : ∀ j u, (encC x)[j]? = some u → (w.alloc o).cell? ((⟨b, 0, none⟩ : Addr).add j) = some u := by
  subst hb ho
  exact World.news_of_block (cs := (encC x).toArray) (heap_new w _)
theorem heap3 (w : World) (o1 o2 o3 : Obj) : (((w.alloc o1).alloc o2).alloc o3).heap[w.heap.size + 1]? = some o2 := by
  have h := heap_new (w.alloc o1) o2
  rw [show (w.alloc o1).heap.size = w.heap.size + 1 by simp] at h
  exact (Below.heap_alloc _ _ _ (by simp)).trans h

set_option maxHeartbeats 8000000 in
set_option maxRecDepth 100000 in
theorem compare_any (t : BT) (ps : Option Addr) (p : Nat) (l : List LeftS) (v : Value) (w : World) (hS : IsS w ps t) (hok : AllOk t) (hvk : ValOk t) (hsz : t.sz ≤ 1000000)
    (hL : LAt w p l v) (hll : l.length ≤ 1000000) (hE : ∀ e ∈ allL t, EntOk e) (hlE : ∀ x ∈ l, EntOk x.ent) :
    Calls Tryz.prog 12 #[.pointer (some ⟨p, 0, none⟩), .pointer ps] w fun e w' => ∃ u, e = .returned (.tuple #[u, .int .i64 0]) ∧ Rd w' 14 encC u (compareL (allL t) l) ∧ Ext w w' := by
  obtain ⟨i0, hi, hz0, hz1, hz2⟩ := info_parts info_cons
  have HA := Lib.hid (fun W hW => all_any t ps W hW hok hvk hsz)
  have HS := Lib.hid hS
  have HL := Lib.hid hL
  have halen : (allL t).length ≤ 1000000 := by
    unfold allL
    refine Nat.le_trans (List.length_filterMap_le _ _) (Nat.le_trans (List.length_filter_le _ _) ?_)
    rw [List.length_map, ← BT.sz_eq]; exact hsz
  have HE := Lib.hid hE
  have HlE := Lib.hid hlE
  obtain ⟨sb, pt, hps, hx1, hx2⟩ := id hS
  subst hps
  clear hx1 hx2
  generalize allL t = all at HA HE halen ⊢
  clear hok hvk hsz hS hL hE hlE
  have hmm := @run_makeMap Tryz.prog
  go_enter Tryz.func12, Tryz.ntmps12
  go_wp2_with fail
  (with_reducible refine (HA.out _ HS.out).mono ?_)
  rintro e w1 ⟨av, rfl, hr1, hx1⟩
  obtain ⟨hm1, A, c, rfl, hcs⟩ := id hr1
  have HR1 := Lib.hid hr1
  have HX1 := Lib.hid hx1
  have HC := Lib.hid hcs
  clear hr1 hx1 hcs
  go_wp2_with fail
  have hmap : ((w1.alloc (.map #[] 0)).alloc (.map #[] 0)).heap.size = w1.heap.size + 2 := by simp
  have HM0 : Hid (ThereAt ((w1.alloc (.map #[] 0)).alloc (.map #[] 0)) w1.heap.size 0 (all.take 0) ∧ FirstAt ((w1.alloc (.map #[] 0)).alloc (.map #[] 0)) (w1.heap.size + 1) 0 (all.take 0)) := Lib.hid (by
    refine ⟨(MapAt.made w1).ext ((Ext.refl _).alloc _) |>.congr (fun x _ => by simp [thereM]), ?_⟩
    have := MapAt.made (α := SlotS) (k := 95) (kl := slotL) (Ok := SlotOk) (z := zeroEnt) (w1.alloc (.map #[] 0))
    rw [show (w1.alloc (.map #[] 0)).heap.size = w1.heap.size + 1 by simp] at this
    exact this.congr (fun x _ => by simp [firstM, firstL]))
  go_loopg [35] all.length (fun g a wx => ∃ j : Nat, a = .int .i64 j ∧ j + g = all.length ∧ Aside (ThereAt wx w1.heap.size j (all.take j) ∧ FirstAt wx (w1.heap.size + 1) j (all.take j) ∧ Ext w1 wx))
  case atStart => exact ⟨0, rfl, by omega, HM0.out.1, HM0.out.2, ((Ext.refl w1).alloc _).alloc _⟩
  case round =>
    obtain ⟨j, rfl, hg, hA⟩ := hrel
    by_cases hlt : j < all.length
    · obtain ⟨b, off, rfl, hb, hcell⟩ := HC.out (by omega)
      have hy := hcell j hlt
      have heE := HE.out _ (List.getElem_mem hlt)
      have hT := take_snoc all j hlt
      generalize all[j] = en at hy heE hT
      obtain ⟨ow, nu, ti, ⟨ch, tg, tx, us⟩⟩ := en
      have y0 := hA.out.2.2.cell_some (hy 0 (.string ow) rfl)
      have y1 := hA.out.2.2.cell_some (hy 1 (.int .i64 nu) rfl)
      have y2 := hA.out.2.2.cell_some (hy 2 (.int .i64 ti) rfl)
      have y3 := hA.out.2.2.cell_some (hy 3 (.int .i64 ch) rfl)
      have y4 := hA.out.2.2.cell_some (hy 4 (.string tg) rfl)
      have y5 := hA.out.2.2.cell_some (hy 5 (.string tx) rfl)
      have y6 := hA.out.2.2.cell_some (hy 6 (.int .i64 us) rfl)
      simp only [Nat.add_zero] at y0
      have hX0 : Ext wr (wr.alloc (.cells #[.string ow, .int .i64 nu, .int .i64 ti, .int .i64 ch, .string tg, .string tx, .int .i64 us] 41)) := (Ext.refl wr).alloc _
      obtain ⟨wa, ra, Ma, ga⟩ := (hA.out.1.ext hX0).store keyed_ent Tryz.underlying91 keyOf_ent entL_inj (by unfold maxLen; omega) _ heE (.bool true)
      have hba := (ga.block wr.heap.size (by simp) (by have := hA.out.2.2.size; have := hA.out.1.lt; simp; omega)).trans (heap_new wr _)
      have Fa := (hA.out.2.1.ext hX0).kept ga (by simp)
      have rb := Fa.look_ok keyed_slot Tryz.underlying92 (zero_ent wa) keyOf_slot (slotOf ⟨ow, nu, ti, ⟨ch, tg, tx, us⟩⟩) (slotOf_ok heE)
      have hXa : Ext w1 wa := Below.grown (hA.out.2.2.trans hX0) ga (by have := hA.out.2.2.size; simp; omega) (fun k e => by cases e; omega)
      have a0 := (cells_at hba).1 0 _ rfl
      have a1 := (cells_at hba).1 1 _ rfl
      have a2 := (cells_at hba).1 2 _ rfl
      have a3 := (cells_at hba).1 3 _ rfl
      have a4 := (cells_at hba).1 4 _ rfl
      have a5 := (cells_at hba).1 5 _ rfl
      have a6 := (cells_at hba).1 6 _ rfl
      simp only [List.getElem_toArray, List.getElem_cons_zero, List.getElem_cons_succ] at a0 a1 a2 a3 a4 a5 a6
      have b0 : ∀ o, (wa.alloc o).cell? ⟨wr.heap.size, 0, none⟩ = some (.string ow) := fun o => ((Ext.refl wa).alloc o).cell_some a0
      have b1 : ∀ o, (wa.alloc o).cell? ⟨wr.heap.size, 1, none⟩ = some (.int .i64 nu) := fun o => ((Ext.refl wa).alloc o).cell_some a1
      have b2 : ∀ o, (wa.alloc o).cell? ⟨wr.heap.size, 2, none⟩ = some (.int .i64 ti) := fun o => ((Ext.refl wa).alloc o).cell_some a2
      have b3 : ∀ o, (wa.alloc o).cell? ⟨wr.heap.size, 3, none⟩ = some (.int .i64 ch) := fun o => ((Ext.refl wa).alloc o).cell_some a3
      have b4 : ∀ o, (wa.alloc o).cell? ⟨wr.heap.size, 4, none⟩ = some (.string tg) := fun o => ((Ext.refl wa).alloc o).cell_some a4
      have b5 : ∀ o, (wa.alloc o).cell? ⟨wr.heap.size, 5, none⟩ = some (.string tx) := fun o => ((Ext.refl wa).alloc o).cell_some a5
      have b6 : ∀ o, (wa.alloc o).cell? ⟨wr.heap.size, 6, none⟩ = some (.int .i64 us) := fun o => ((Ext.refl wa).alloc o).cell_some a6
      cases hF : firstL (all.take j) (slotOf ⟨ow, nu, ti, ⟨ch, tg, tx, us⟩⟩) with
      | none =>
        have rb' := rb
        rw [show firstM (all.take j) (slotOf ⟨ow, nu, ti, ⟨ch, tg, tx, us⟩⟩) = none by unfold firstM; rw [hF]; rfl] at rb'
        simp only [slotV, slotOf, Option.getD_none, Option.isSome_none, zeroEnt, entV] at rb' ra
        obtain ⟨wc, rc, Mc, gc⟩ := (Fa.ext ((Ext.refl wa).alloc (.cells #[.string ⟨#[]⟩, .int .i64 0, .int .i64 0, .int .i64 0, .string ⟨#[]⟩, .string ⟨#[]⟩, .int .i64 0] 41))).store keyed_slot Tryz.underlying92 keyOf_slot slotL_inj (by unfold maxLen; omega) (slotOf ⟨ow, nu, ti, ⟨ch, tg, tx, us⟩⟩) (slotOf_ok heE) (entV ⟨ow, nu, ti, ⟨ch, tg, tx, us⟩⟩)
        simp only [slotV, slotOf, entV] at rc
        have HZ := Lib.hid (And.intro (((Ma.ext ((Ext.refl wa).alloc _)).kept gc (by simp)).congr (fun x _ => thereM_snoc _ _ x)) (And.intro (Mc.congr (fun x _ => firstM_new hF x)) (Below.grown (hXa.alloc _) gc (by have := hXa.size; simp; omega) (fun k e => by cases e; omega))))
        clear rb Ma ga Fa Mc gc hba hXa hF hX0 a2 a3 a4 a5 a6 hcell hy
        go_wp2_with fail
        go_roundg (all.length - (j + 1))
        case measure => omega
        case rel =>
          refine ⟨j + 1, by go_num, by omega, ?_, ?_, HZ.out.2.2⟩
          · rw [hT]; exact HZ.out.1
          · rw [hT]; exact HZ.out.2.1
      | some y =>
        have rb' := rb
        rw [show firstM (all.take j) (slotOf ⟨ow, nu, ti, ⟨ch, tg, tx, us⟩⟩) = some (entV y) by unfold firstM; rw [hF]; rfl] at rb'
        obtain ⟨zo, zn, zt, ⟨zc, zg, zx, zu⟩⟩ := y
        simp only [slotV, slotOf, Option.getD_some, Option.isSome_some, entV] at rb' ra
        have HZ := Lib.hid (And.intro ((Ma.ext ((Ext.refl wa).alloc (.cells #[.string zo, .int .i64 zn, .int .i64 zt, .int .i64 zc, .string zg, .string zx, .int .i64 zu] 41))).congr (fun x _ => thereM_snoc _ _ x)) (And.intro (((Fa.ext ((Ext.refl wa).alloc (.cells #[.string zo, .int .i64 zn, .int .i64 zt, .int .i64 zc, .string zg, .string zx, .int .i64 zu] 41))).congr (fun x _ => firstM_old hF x)).mono (Nat.le_succ j)) (hXa.alloc (.cells #[.string zo, .int .i64 zn, .int .i64 zt, .int .i64 zc, .string zg, .string zx, .int .i64 zu] 41))))
        clear rb Ma ga Fa hba hXa hF hX0 a2 a3 a4 a5 a6 hcell hy
        go_wp2_with fail
        go_roundg (all.length - (j + 1))
        case measure => omega
        case rel =>
          refine ⟨j + 1, by go_num, by omega, ?_, ?_, HZ.out.2.2⟩
          · rw [hT]; exact HZ.out.1
          · rw [hT]; exact HZ.out.2.1
    · obtain rfl : j = all.length := by omega
      have hA' := hA.out
      rw [List.take_length] at hA'
      have HT := Lib.hid hA'.1
      have HF := Lib.hid hA'.2.1
      have HX2 := Lib.hid (HX1.out.trans hA'.2.2)
      have HX3 := Lib.hid hA'.2.2
      have hs1 := hA'.2.2.size
      have hB1 := HT.out.lt
      have hB2 := HF.out.lt
      clear hA hA' HM0 hmap hlt hg
      obtain ⟨W3, rfl⟩ : ∃ W3 : World, W3 = wr := ⟨_, rfl⟩
      have HLN := Lib.hid (llen_any p l v _ ((HL.out.ext HX2.out).ext ((Ext.refl W3).alloc (.map #[] 0))))
      go_wp2_with (go_at_call 13; (with_reducible refine HLN.out.mono ?_); rintro e w' ⟨rfl, rfl⟩)
      go_loopg [13, 64] l.length (fun g a d wx => ∃ (i : Nat) (u : Value), d = .int .i64 i ∧ a = u ∧ i + g = l.length ∧ Aside (ThereAt wx w1.heap.size all.length all ∧ FirstAt wx (w1.heap.size + 1) all.length all ∧ ThereAt wx W3.heap.size i (metL all (l.take i)) ∧ wx.ownsRow (W3.heap.size + 1) 37 14 u (consL all 0 (l.take i)).length ((consL all 0 (l.take i)).flatMap encC) ∧ Ext w1 wx ∧ W3.heap.size + 1 ≤ wx.heap.size ∧ LAt wx p l v))
      case atStart =>
        refine ⟨0, _, rfl, rfl, by omega, ?_⟩
        have hx : Ext W3 (W3.alloc (.map #[] 0)) := (Ext.refl W3).alloc _
        exact ⟨HT.out.ext hx, HF.out.ext hx, (MapAt.made W3).congr (fun x _ => by simp [thereM, metL]), World.ownsRow_nil _ _ _ _, HX3.out.trans hx, by simp, (HL.out.ext HX2.out).ext hx⟩
      case round =>
        obtain ⟨i, u, rfl, hu, hg, hA⟩ := hrel
        have hu' := hu.symm
        subst hu'
        clear hu HLN
        by_cases hlt : i < l.length
        · have HGet := Lib.hid (fun W hW => lget_ok p l v i hlt W hW)
          have hxE := HlE.out _ (List.getElem_mem hlt)
          have hcT := Lib.hid (consL_take all l i hlt)
          have hmT := Lib.hid (metL_take all l i hlt)
          generalize l[i] = xx at HGet hxE hcT hmT
          obtain ⟨⟨ow, nu, ti, ⟨ch, tg, tx, us⟩⟩, at_, rn⟩ := xx
          simp only [leftV] at HGet
          have HXE := Lib.hid hxE
          clear hxE
          go_wp2_with fail
          (with_reducible refine (HGet.out _ hA.out.2.2.2.2.2.2).mono ?_)
          rintro e w2 ⟨rfl, hx2⟩
          have hXc : Ext w2 ((w2.alloc (.cells #[.string ow, .int .i64 nu, .int .i64 ti, .int .i64 ch, .string tg, .string tx, .int .i64 us, .int .i64 at_, .int .i64 rn] 52)).alloc (.cells #[.int .i64 2, .string ow, .int .i64 nu, .int .i64 i, .int .i64 ch, .string tg, .string tx, .int .i64 us, .int .i64 ti, .int .i64 0, .string ⟨#[]⟩, .string ⟨#[]⟩, .int .i64 0, .int .i64 0] 37)) := ((Ext.refl w2).alloc _).alloc _
          have hF := ((hA.out.2.1.ext hx2).ext hXc).look_ok keyed_slot Tryz.underlying92 (zero_ent _) keyOf_slot (slotOf ⟨ow, nu, ti, ⟨ch, tg, tx, us⟩⟩) (slotOf_ok HXE.out)
          simp only [slotV, slotOf] at hF
          have hsz2 := hx2.size
          have HX2' := Lib.hid hx2
          clear hXc hx2
          have HCC : ∃ CC, CC = consOf all i ⟨ow, nu, ti, ⟨ch, tg, tx, us⟩⟩ := ⟨_, rfl⟩
          obtain ⟨CC, hCC⟩ := HCC
          have HCC := Lib.hid hCC
          clear hCC
          cases hFs : firstL all (slotOf ⟨ow, nu, ti, ⟨ch, tg, tx, us⟩⟩) with
          | none =>
            rw [show firstM all ⟨ow, nu⟩ = none by unfold firstM; (have := hFs; unfold slotOf at this; rw [this]; rfl)] at hF
            simp only [Option.getD_none, Option.isSome_none, zeroEnt] at hF
            have hin : ¬ (⟨ow, nu, ti, ⟨ch, tg, tx, us⟩⟩ : EntS) ∈ all := fun h => by
              unfold firstL at hFs
              have := List.find?_eq_none.1 hFs _ h
              simp at this
            have HIN := Lib.hid hin
            have HFs := Lib.hid hFs
            clear hFs
            have hXw : Ext w2 (((w2.alloc (.cells #[.string ow, .int .i64 nu, .int .i64 ti, .int .i64 ch, .string tg, .string tx, .int .i64 us, .int .i64 at_, .int .i64 rn] 52)).alloc (.cells #[.int .i64 2, .string ow, .int .i64 nu, .int .i64 i, .int .i64 ch, .string tg, .string tx, .int .i64 us, .int .i64 ti, .int .i64 0, .string ⟨#[]⟩, .string ⟨#[]⟩, .int .i64 0, .int .i64 0] 37)).alloc (.cells #[.string ⟨#[]⟩, .int .i64 0, .int .i64 0, .int .i64 0, .string ⟨#[]⟩, .string ⟨#[]⟩, .int .i64 0] 41)) := (((Ext.refl w2).alloc _).alloc _).alloc _
            have hTl := ((hA.out.1.ext HX2'.out).ext hXw).look keyed_ent Tryz.underlying91 (zero_bool _) keyOf_ent ⟨ow, nu, ti, ⟨ch, tg, tx, us⟩⟩ HXE.out
            rw [show thereM all ⟨ow, nu, ti, ⟨ch, tg, tx, us⟩⟩ = none by unfold thereM; rw [if_neg hin]] at hTl
            simp only [Option.getD_none, entV] at hTl
            have HXw := Lib.hid hXw
            clear hXw
            go_upto_block 4 with fail
            go_cut [102] (fun _ wx => wx.heap[w2.heap.size + 1]? = some (.cells (encC CC).toArray 37 (0, 0)) ∧ Aside (ThereAt wx w1.heap.size all.length all ∧ FirstAt wx (w1.heap.size + 1) all.length all ∧ ThereAt wx W3.heap.size (i + 1) (metL all (l.take (i + 1))) ∧ wx.ownsRow (W3.heap.size + 1) 37 14 u (consL all 0 (l.take i)).length ((consL all 0 (l.take i)).flatMap encC) ∧ Ext w1 wx ∧ W3.heap.size + 1 ≤ wx.heap.size ∧ LAt wx p l v))
            case first =>
              go_wp2_with fail
              go_meet
              obtain ⟨h1, h2, h3, h4, h5, h6, h7⟩ := hA.out
              have hx := HX2'.out.trans HXw.out
              refine ⟨?_, h1.ext hx, h2.ext hx, ?_, owns_ext h4 hx, h5.trans hx, Nat.le_trans h6 hx.size, h7.ext hx⟩
              · rw [HCC.out, show consOf all i ⟨ow, nu, ti, ⟨ch, tg, tx, us⟩⟩ = ⟨2, ow, nu, i, ⟨ch, tg, tx, us⟩, ti, outZ, 0⟩ by unfold consOf; rw [if_neg HIN.out, HFs.out]]
                exact heap3 _ _ _ _
              · rw [hmT.out, show metOf all ⟨ow, nu, ti, ⟨ch, tg, tx, us⟩⟩ = none by unfold metOf; rw [if_neg HIN.out]; exact HFs.out]
                simpa using (h3.ext hx).mono (Nat.le_succ i)

            case rest =>
              obtain ⟨hbk, hA2⟩ := hcut
              clear hTl hF
              obtain ⟨kk, ko, kn, kp, ⟨oc, og, ox, ou⟩, ka, ⟨nc, ng, nx, nw⟩, kt⟩ := CC
              simp only [encC] at hbk
              have d0 := (cells_at hbk).1 0 _ rfl
              have d1 := (cells_at hbk).1 1 _ rfl
              have d2 := (cells_at hbk).1 2 _ rfl
              have d3 := (cells_at hbk).1 3 _ rfl
              have d4 := (cells_at hbk).1 4 _ rfl
              have d5 := (cells_at hbk).1 5 _ rfl
              have d6 := (cells_at hbk).1 6 _ rfl
              have d7 := (cells_at hbk).1 7 _ rfl
              have d8 := (cells_at hbk).1 8 _ rfl
              have d9 := (cells_at hbk).1 9 _ rfl
              have d10 := (cells_at hbk).1 10 _ rfl
              have d11 := (cells_at hbk).1 11 _ rfl
              have d12 := (cells_at hbk).1 12 _ rfl
              have d13 := (cells_at hbk).1 13 _ rfl
              simp only [List.getElem_toArray, List.getElem_cons_zero, List.getElem_cons_succ] at d0 d1 d2 d3 d4 d5 d6 d7 d8 d9 d10 d11 d12 d13
              have HBK := Lib.hid hbk
              clear hbk
              have hle : (consL all 0 (l.take i)).length ≤ 1000000 := by rw [consL_len, List.length_take]; omega
              have hle2 := hA2.out.2.2.2.2.2.1
              go_wp2_with (at_builtin; (refine wpList_append_own_at _ rfl _ _ 28 rfl (W3.heap.size + 1) 37 i0 _ 14 152 Tryz.underlying28 hi hz0 hz1 hz2 rfl (by decide) u _ _ rfl (owns_ext hA2.out.2.2.2.1 ((Ext.refl wc).alloc _)) ⟨wc.heap.size, 0, none⟩ 1 1 (encC ⟨kk, ko, kn, kp, ⟨oc, og, ox, ou⟩, ka, ⟨nc, ng, nx, nw⟩, kt⟩) rfl (by rfl) (news_cons wc _ rfl ⟨kk, ko, kn, kp, ⟨oc, og, ox, ou⟩, ka, ⟨nc, ng, nx, nw⟩, kt⟩ _ rfl) (by simp [encC, Value.oneCell']) (by unfold maxLen; omega) (by omega) (by simp; omega) ?_; intro u' w4 hown' hgrow _ _; have HO := Lib.hid (And.intro hown' hgrow); clear hown' hgrow))
              go_roundg (l.length - (i + 1))
              case measure => omega
              case rel =>
                obtain ⟨h1, h2, h3, h4, h5, h6, h7⟩ := hA2.out
                have hx : Ext wc (wc.alloc _) := (Ext.refl wc).alloc (.cells #[.int .i64 kk, .string ko, .int .i64 kn, .int .i64 kp, .int .i64 oc, .string og, .string ox, .int .i64 ou, .int .i64 ka, .int .i64 nc, .string ng, .string nx, .int .i64 nw, .int .i64 kt] 37)
                have hgr := HO.out.2
                have hne : ∀ b, b ≤ W3.heap.size → some b ≠ u.ownBlock := fun b hb e => by have := (h4.lt _ e.symm).1; omega
                have hE4 : Ext w1 w4 := ext_owns (owns_ext h4 hx) (h5.trans hx) (by omega) hgr
                refine ⟨i + 1, u', by go_num, rfl, by omega, (h1.ext hx).kept hgr (hne _ (by omega)), (h2.ext hx).kept hgr (hne _ (by omega)), (h3.ext hx).kept hgr (hne _ (by omega)), ?_, hE4, ?_, HL.out.ext (HX1.out.trans hE4)⟩
                · rw [hcT.out, ← HCC.out]
                  simpa using HO.out.1
                · have := hgr.size
                  have := hx.size
                  omega
          | some y =>
            rw [show firstM all ⟨ow, nu⟩ = some (entV y) by unfold firstM; (have := hFs; unfold slotOf at this; rw [this]; rfl)] at hF
            have hyE := HE.out _ (firstL_mem hFs).1
            obtain ⟨zo, zn, zt, ⟨zc, zg, zx, zu⟩⟩ := y
            simp only [Option.getD_some, Option.isSome_some, entV] at hF
            have HFs := Lib.hid hFs
            have HYE := Lib.hid hyE
            clear hFs hyE
            by_cases hin : (⟨ow, nu, ti, ⟨ch, tg, tx, us⟩⟩ : EntS) ∈ all
            · have HIN := Lib.hid hin
              have hXw : Ext w2 (((w2.alloc (.cells #[.string ow, .int .i64 nu, .int .i64 ti, .int .i64 ch, .string tg, .string tx, .int .i64 us, .int .i64 at_, .int .i64 rn] 52)).alloc (.cells #[.int .i64 2, .string ow, .int .i64 nu, .int .i64 i, .int .i64 ch, .string tg, .string tx, .int .i64 us, .int .i64 ti, .int .i64 0, .string ⟨#[]⟩, .string ⟨#[]⟩, .int .i64 0, .int .i64 0] 37)).alloc (.cells #[.string zo, .int .i64 zn, .int .i64 zt, .int .i64 zc, .string zg, .string zx, .int .i64 zu] 41)) := (((Ext.refl w2).alloc _).alloc _).alloc _
              have hTl := ((hA.out.1.ext HX2'.out).ext hXw).look keyed_ent Tryz.underlying91 (zero_bool _) keyOf_ent ⟨ow, nu, ti, ⟨ch, tg, tx, us⟩⟩ HXE.out
              rw [show thereM all ⟨ow, nu, ti, ⟨ch, tg, tx, us⟩⟩ = some (.bool true) by unfold thereM; rw [if_pos hin]] at hTl
              simp only [Option.getD_some, entV] at hTl
              have HXw := Lib.hid hXw
              clear hXw
              go_upto_block 4 with fail
              go_cut [102] (fun _ wx => wx.heap[w2.heap.size + 1]? = some (.cells (encC CC).toArray 37 (0, 0)) ∧ Aside (ThereAt wx w1.heap.size all.length all ∧ FirstAt wx (w1.heap.size + 1) all.length all ∧ ThereAt wx W3.heap.size (i + 1) (metL all (l.take (i + 1))) ∧ wx.ownsRow (W3.heap.size + 1) 37 14 u (consL all 0 (l.take i)).length ((consL all 0 (l.take i)).flatMap encC) ∧ Ext w1 wx ∧ W3.heap.size + 1 ≤ wx.heap.size ∧ LAt wx p l v))
              case first =>
                go_wp2_with fail
                go_region
                all_goals go_wp2_with (at_mapUpdate; (refine wpList_mapStore _ rfl _ _ _ 91 rfl keyed_ent Tryz.underlying91 keyOf_ent entL_inj rfl ((hA.out.2.2.1.ext HX2'.out).ext (by repeat (first | with_reducible exact Ext.refl _ | with_reducible refine Ext.drew ?_ | with_reducible refine Ext.alloc ?_ _))) (by unfold maxLen; omega) ⟨ow, nu, ti, ⟨ch, tg, tx, us⟩⟩ HXE.out rfl (.bool true) rfl ?_; intro wd Md gd; have HMD := Lib.hid (And.intro Md gd); clear Md gd))
                all_goals go_meet
                all_goals
                  obtain ⟨Md, gd⟩ := HMD.out
                  obtain ⟨h1, h2, h3, h4, h5, h6, h7⟩ := hA.out
                  have hxw : Ext w2 ((((w2.alloc (.cells #[.string ow, .int .i64 nu, .int .i64 ti, .int .i64 ch, .string tg, .string tx, .int .i64 us, .int .i64 at_, .int .i64 rn] 52)).alloc (.cells #[.int .i64 1, .string ow, .int .i64 nu, .int .i64 i, .int .i64 ch, .string tg, .string tx, .int .i64 us, .int .i64 ti, .int .i64 ch, .string tg, .string tx, .int .i64 us, .int .i64 ti] 37)).alloc (.cells #[.string zo, .int .i64 zn, .int .i64 zt, .int .i64 zc, .string zg, .string zx, .int .i64 zu] 41)).drew) := (by repeat (first | with_reducible exact Ext.refl _ | with_reducible refine Ext.drew ?_ | with_reducible refine Ext.alloc ?_ _))
                  have hx := HX2'.out.trans hxw
                  have hlt1 := (h1.ext hx).lt
                  have hlt2 := (h2.ext hx).lt
                  have hs := hx.size
                  have hs2 := hxw.size
                  have hE : Ext w1 wd := Below.grown (h5.trans hx) gd (by have := h5.size; omega) (fun k e => by cases e; omega)
                  refine ⟨?_, (h1.ext hx).kept gd (by simp; omega), (h2.ext hx).kept gd (by simp; omega), ?_, (owns_ext h4 hx).kept gd (.inr (fun e => by have := (h4.lt _ e).1; omega)), hE, ?_, HL.out.ext (HX1.out.trans hE)⟩
                  · rw [HCC.out, show consOf all i ⟨ow, nu, ti, ⟨ch, tg, tx, us⟩⟩ = ⟨1, ow, nu, i, ⟨ch, tg, tx, us⟩, ti, ⟨ch, tg, tx, us⟩, ti⟩ by unfold consOf; rw [if_pos HIN.out]]
                    exact (gd.block _ (by simp) (by simp; omega)).trans (heap3 _ _ _ _)
                  · rw [hmT.out, show metOf all ⟨ow, nu, ti, ⟨ch, tg, tx, us⟩⟩ = some ⟨ow, nu, ti, ⟨ch, tg, tx, us⟩⟩ by unfold metOf; rw [if_pos HIN.out]]
                    exact Md.congr (fun x _ => thereM_snoc _ _ x)
                  · have := gd.size
                    omega

              case rest =>
                obtain ⟨hbk, hA2⟩ := hcut
                clear hTl hF
                obtain ⟨kk, ko, kn, kp, ⟨oc, og, ox, ou⟩, ka, ⟨nc, ng, nx, nw⟩, kt⟩ := CC
                simp only [encC] at hbk
                have d0 := (cells_at hbk).1 0 _ rfl
                have d1 := (cells_at hbk).1 1 _ rfl
                have d2 := (cells_at hbk).1 2 _ rfl
                have d3 := (cells_at hbk).1 3 _ rfl
                have d4 := (cells_at hbk).1 4 _ rfl
                have d5 := (cells_at hbk).1 5 _ rfl
                have d6 := (cells_at hbk).1 6 _ rfl
                have d7 := (cells_at hbk).1 7 _ rfl
                have d8 := (cells_at hbk).1 8 _ rfl
                have d9 := (cells_at hbk).1 9 _ rfl
                have d10 := (cells_at hbk).1 10 _ rfl
                have d11 := (cells_at hbk).1 11 _ rfl
                have d12 := (cells_at hbk).1 12 _ rfl
                have d13 := (cells_at hbk).1 13 _ rfl
                simp only [List.getElem_toArray, List.getElem_cons_zero, List.getElem_cons_succ] at d0 d1 d2 d3 d4 d5 d6 d7 d8 d9 d10 d11 d12 d13
                have HBK := Lib.hid hbk
                clear hbk
                have hle : (consL all 0 (l.take i)).length ≤ 1000000 := by rw [consL_len, List.length_take]; omega
                have hle2 := hA2.out.2.2.2.2.2.1
                go_wp2_with (at_builtin; (refine wpList_append_own_at _ rfl _ _ 28 rfl (W3.heap.size + 1) 37 i0 _ 14 152 Tryz.underlying28 hi hz0 hz1 hz2 rfl (by decide) u _ _ rfl (owns_ext hA2.out.2.2.2.1 ((Ext.refl wc).alloc _)) ⟨wc.heap.size, 0, none⟩ 1 1 (encC ⟨kk, ko, kn, kp, ⟨oc, og, ox, ou⟩, ka, ⟨nc, ng, nx, nw⟩, kt⟩) rfl (by rfl) (news_cons wc _ rfl ⟨kk, ko, kn, kp, ⟨oc, og, ox, ou⟩, ka, ⟨nc, ng, nx, nw⟩, kt⟩ _ rfl) (by simp [encC, Value.oneCell']) (by unfold maxLen; omega) (by omega) (by simp; omega) ?_; intro u' w4 hown' hgrow _ _; have HO := Lib.hid (And.intro hown' hgrow); clear hown' hgrow))
                go_roundg (l.length - (i + 1))
                case measure => omega
                case rel =>
                  obtain ⟨h1, h2, h3, h4, h5, h6, h7⟩ := hA2.out
                  have hx : Ext wc (wc.alloc _) := (Ext.refl wc).alloc (.cells #[.int .i64 kk, .string ko, .int .i64 kn, .int .i64 kp, .int .i64 oc, .string og, .string ox, .int .i64 ou, .int .i64 ka, .int .i64 nc, .string ng, .string nx, .int .i64 nw, .int .i64 kt] 37)
                  have hgr := HO.out.2
                  have hne : ∀ b, b ≤ W3.heap.size → some b ≠ u.ownBlock := fun b hb e => by have := (h4.lt _ e.symm).1; omega
                  have hE4 : Ext w1 w4 := ext_owns (owns_ext h4 hx) (h5.trans hx) (by omega) hgr
                  refine ⟨i + 1, u', by go_num, rfl, by omega, (h1.ext hx).kept hgr (hne _ (by omega)), (h2.ext hx).kept hgr (hne _ (by omega)), (h3.ext hx).kept hgr (hne _ (by omega)), ?_, hE4, ?_, HL.out.ext (HX1.out.trans hE4)⟩
                  · rw [hcT.out, ← HCC.out]
                    simpa using HO.out.1
                  · have := hgr.size
                    have := hx.size
                    omega


            · have HIN := Lib.hid hin
              have hXw : Ext w2 (((w2.alloc (.cells #[.string ow, .int .i64 nu, .int .i64 ti, .int .i64 ch, .string tg, .string tx, .int .i64 us, .int .i64 at_, .int .i64 rn] 52)).alloc (.cells #[.int .i64 2, .string ow, .int .i64 nu, .int .i64 i, .int .i64 ch, .string tg, .string tx, .int .i64 us, .int .i64 ti, .int .i64 0, .string ⟨#[]⟩, .string ⟨#[]⟩, .int .i64 0, .int .i64 0] 37)).alloc (.cells #[.string zo, .int .i64 zn, .int .i64 zt, .int .i64 zc, .string zg, .string zx, .int .i64 zu] 41)) := (((Ext.refl w2).alloc _).alloc _).alloc _
              have hTl := ((hA.out.1.ext HX2'.out).ext hXw).look keyed_ent Tryz.underlying91 (zero_bool _) keyOf_ent ⟨ow, nu, ti, ⟨ch, tg, tx, us⟩⟩ HXE.out
              rw [show thereM all ⟨ow, nu, ti, ⟨ch, tg, tx, us⟩⟩ = none by unfold thereM; rw [if_neg hin]] at hTl
              simp only [Option.getD_none, entV] at hTl
              have HXw := Lib.hid hXw
              clear hXw
              go_upto_block 4 with fail
              go_cut [102] (fun _ wx => wx.heap[w2.heap.size + 1]? = some (.cells (encC CC).toArray 37 (0, 0)) ∧ Aside (ThereAt wx w1.heap.size all.length all ∧ FirstAt wx (w1.heap.size + 1) all.length all ∧ ThereAt wx W3.heap.size (i + 1) (metL all (l.take (i + 1))) ∧ wx.ownsRow (W3.heap.size + 1) 37 14 u (consL all 0 (l.take i)).length ((consL all 0 (l.take i)).flatMap encC) ∧ Ext w1 wx ∧ W3.heap.size + 1 ≤ wx.heap.size ∧ LAt wx p l v))
              case first =>
                go_wp2_with fail
                go_region
                all_goals go_wp2_with (at_mapUpdate; (refine wpList_mapStore _ rfl _ _ _ 91 rfl keyed_ent Tryz.underlying91 keyOf_ent entL_inj rfl ((hA.out.2.2.1.ext HX2'.out).ext (by repeat (first | with_reducible exact Ext.refl _ | with_reducible refine Ext.drew ?_ | with_reducible refine Ext.alloc ?_ _))) (by unfold maxLen; omega) ⟨zo, zn, zt, ⟨zc, zg, zx, zu⟩⟩ HYE.out rfl (.bool true) rfl ?_; intro wd Md gd; have HMD := Lib.hid (And.intro Md gd); clear Md gd))
                all_goals go_meet
                all_goals
                  obtain ⟨Md, gd⟩ := HMD.out
                  obtain ⟨h1, h2, h3, h4, h5, h6, h7⟩ := hA.out
                  have hxw : Ext w2 ((((w2.alloc (.cells #[.string ow, .int .i64 nu, .int .i64 ti, .int .i64 ch, .string tg, .string tx, .int .i64 us, .int .i64 at_, .int .i64 rn] 52)).alloc (.cells #[.int .i64 3, .string ow, .int .i64 nu, .int .i64 i, .int .i64 ch, .string tg, .string tx, .int .i64 us, .int .i64 ti, .int .i64 zc, .string zg, .string zx, .int .i64 zu, .int .i64 zt] 37)).alloc (.cells #[.string zo, .int .i64 zn, .int .i64 zt, .int .i64 zc, .string zg, .string zx, .int .i64 zu] 41)).drew) := (by repeat (first | with_reducible exact Ext.refl _ | with_reducible refine Ext.drew ?_ | with_reducible refine Ext.alloc ?_ _))
                  have hx := HX2'.out.trans hxw
                  have hlt1 := (h1.ext hx).lt
                  have hlt2 := (h2.ext hx).lt
                  have hs := hx.size
                  have hs2 := hxw.size
                  have hE : Ext w1 wd := Below.grown (h5.trans hx) gd (by have := h5.size; omega) (fun k e => by cases e; omega)
                  refine ⟨?_, (h1.ext hx).kept gd (by simp; omega), (h2.ext hx).kept gd (by simp; omega), ?_, (owns_ext h4 hx).kept gd (.inr (fun e => by have := (h4.lt _ e).1; omega)), hE, ?_, HL.out.ext (HX1.out.trans hE)⟩
                  · rw [HCC.out, show consOf all i ⟨ow, nu, ti, ⟨ch, tg, tx, us⟩⟩ = ⟨3, ow, nu, i, ⟨ch, tg, tx, us⟩, ti, ⟨zc, zg, zx, zu⟩, zt⟩ by unfold consOf; rw [if_neg HIN.out, HFs.out]]
                    exact (gd.block _ (by simp) (by simp; omega)).trans (heap3 _ _ _ _)
                  · rw [hmT.out, show metOf all ⟨ow, nu, ti, ⟨ch, tg, tx, us⟩⟩ = some ⟨zo, zn, zt, ⟨zc, zg, zx, zu⟩⟩ by unfold metOf; rw [if_neg HIN.out]; exact HFs.out]
                    exact Md.congr (fun x _ => thereM_snoc _ _ x)
                  · have := gd.size
                    omega

              case rest =>
                obtain ⟨hbk, hA2⟩ := hcut
                clear hTl hF
                obtain ⟨kk, ko, kn, kp, ⟨oc, og, ox, ou⟩, ka, ⟨nc, ng, nx, nw⟩, kt⟩ := CC
                simp only [encC] at hbk
                have d0 := (cells_at hbk).1 0 _ rfl
                have d1 := (cells_at hbk).1 1 _ rfl
                have d2 := (cells_at hbk).1 2 _ rfl
                have d3 := (cells_at hbk).1 3 _ rfl
                have d4 := (cells_at hbk).1 4 _ rfl
                have d5 := (cells_at hbk).1 5 _ rfl
                have d6 := (cells_at hbk).1 6 _ rfl
                have d7 := (cells_at hbk).1 7 _ rfl
                have d8 := (cells_at hbk).1 8 _ rfl
                have d9 := (cells_at hbk).1 9 _ rfl
                have d10 := (cells_at hbk).1 10 _ rfl
                have d11 := (cells_at hbk).1 11 _ rfl
                have d12 := (cells_at hbk).1 12 _ rfl
                have d13 := (cells_at hbk).1 13 _ rfl
                simp only [List.getElem_toArray, List.getElem_cons_zero, List.getElem_cons_succ] at d0 d1 d2 d3 d4 d5 d6 d7 d8 d9 d10 d11 d12 d13
                have HBK := Lib.hid hbk
                clear hbk
                have hle : (consL all 0 (l.take i)).length ≤ 1000000 := by rw [consL_len, List.length_take]; omega
                have hle2 := hA2.out.2.2.2.2.2.1
                go_wp2_with (at_builtin; (refine wpList_append_own_at _ rfl _ _ 28 rfl (W3.heap.size + 1) 37 i0 _ 14 152 Tryz.underlying28 hi hz0 hz1 hz2 rfl (by decide) u _ _ rfl (owns_ext hA2.out.2.2.2.1 ((Ext.refl wc).alloc _)) ⟨wc.heap.size, 0, none⟩ 1 1 (encC ⟨kk, ko, kn, kp, ⟨oc, og, ox, ou⟩, ka, ⟨nc, ng, nx, nw⟩, kt⟩) rfl (by rfl) (news_cons wc _ rfl ⟨kk, ko, kn, kp, ⟨oc, og, ox, ou⟩, ka, ⟨nc, ng, nx, nw⟩, kt⟩ _ rfl) (by simp [encC, Value.oneCell']) (by unfold maxLen; omega) (by omega) (by simp; omega) ?_; intro u' w4 hown' hgrow _ _; have HO := Lib.hid (And.intro hown' hgrow); clear hown' hgrow))
                go_roundg (l.length - (i + 1))
                case measure => omega
                case rel =>
                  obtain ⟨h1, h2, h3, h4, h5, h6, h7⟩ := hA2.out
                  have hx : Ext wc (wc.alloc _) := (Ext.refl wc).alloc (.cells #[.int .i64 kk, .string ko, .int .i64 kn, .int .i64 kp, .int .i64 oc, .string og, .string ox, .int .i64 ou, .int .i64 ka, .int .i64 nc, .string ng, .string nx, .int .i64 nw, .int .i64 kt] 37)
                  have hgr := HO.out.2
                  have hne : ∀ b, b ≤ W3.heap.size → some b ≠ u.ownBlock := fun b hb e => by have := (h4.lt _ e.symm).1; omega
                  have hE4 : Ext w1 w4 := ext_owns (owns_ext h4 hx) (h5.trans hx) (by omega) hgr
                  refine ⟨i + 1, u', by go_num, rfl, by omega, (h1.ext hx).kept hgr (hne _ (by omega)), (h2.ext hx).kept hgr (hne _ (by omega)), (h3.ext hx).kept hgr (hne _ (by omega)), ?_, hE4, ?_, HL.out.ext (HX1.out.trans hE4)⟩
                  · rw [hcT.out, ← HCC.out]
                    simpa using HO.out.1
                  · have := hgr.size
                    have := hx.size
                    omega


        · obtain rfl : i = l.length := by omega
          have hA' := hA.out
          rw [List.take_length] at hA'
          have HM := Lib.hid (metL_ok (l := l) HE.out)
          have HCL : Hid (compareL all l = consL all 0 l ++ (all.filter (fun x => decide (x ∉ metL all l))).map consN) := Lib.hid rfl
          have hcl : (consL all 0 l).length = l.length := consL_len _ _ _
          generalize consL all 0 l = cl at hA' HCL hcl
          generalize metL all l = mt at hA' HCL HM
          have HA' := Lib.hid hA'
          have hs3 := hA'.2.2.2.2.2.1
          clear hA hA' hg hlt
          obtain ⟨W4, rfl⟩ : ∃ W4 : World, W4 = wr := ⟨_, rfl⟩
          go_wp2_with fail
          go_loopg [13, 137] all.length (fun g a d wx => ∃ (j : Nat) (u' : Value), d = .int .i64 j ∧ a = u' ∧ j + g = all.length ∧ Aside (ThereAt wx W3.heap.size l.length mt ∧ wx.ownsRow (W3.heap.size + 1) 37 14 u' (cl ++ ((all.take j).filter (fun x => decide (x ∉ mt))).map consN).length ((cl ++ ((all.take j).filter (fun x => decide (x ∉ mt))).map consN).flatMap encC) ∧ Ext w1 wx ∧ W3.heap.size + 1 ≤ wx.heap.size))
          case atStart =>
            obtain ⟨h1, h2, h3, h4, h5, h6, h7⟩ := HA'.out
            exact ⟨0, _, rfl, rfl, by omega, h3, by simpa using h4, h5, h6⟩
          case round =>
            obtain ⟨j, u', rfl, hu, hg, hA⟩ := hrel
            have hu' := hu.symm
            subst hu'
            clear hu
            by_cases hlt : j < all.length
            · obtain ⟨b, off, rfl, hb, hcell⟩ := HC.out (by omega)
              have hy := hcell j hlt
              have heE := HE.out _ (List.getElem_mem hlt)
              have hT := Lib.hid (filter_take (fun x => decide (x ∉ mt)) all j hlt)
              generalize all[j] = en at hy heE hT
              obtain ⟨ow, nu, ti, ⟨ch, tg, tx, us⟩⟩ := en
              have y0 := hA.out.2.2.1.cell_some (hy 0 (.string ow) rfl)
              have y1 := hA.out.2.2.1.cell_some (hy 1 (.int .i64 nu) rfl)
              have y2 := hA.out.2.2.1.cell_some (hy 2 (.int .i64 ti) rfl)
              have y3 := hA.out.2.2.1.cell_some (hy 3 (.int .i64 ch) rfl)
              have y4 := hA.out.2.2.1.cell_some (hy 4 (.string tg) rfl)
              have y5 := hA.out.2.2.1.cell_some (hy 5 (.string tx) rfl)
              have y6 := hA.out.2.2.1.cell_some (hy 6 (.int .i64 us) rfl)
              simp only [Nat.add_zero] at y0
              have hX0 : Ext wr (wr.alloc (.cells #[.string ow, .int .i64 nu, .int .i64 ti, .int .i64 ch, .string tg, .string tx, .int .i64 us] 41)) := (Ext.refl wr).alloc _
              have hM := (hA.out.1.ext hX0).look keyed_ent Tryz.underlying91 (zero_bool _) keyOf_ent ⟨ow, nu, ti, ⟨ch, tg, tx, us⟩⟩ heE
              have HX0 := Lib.hid hX0
              have hle : (cl ++ ((all.take j).filter (fun x => decide (x ∉ mt))).map consN).length ≤ 2000000 := by
                have h1 := List.length_filter_le (fun x => decide (x ∉ mt)) (all.take j)
                rw [List.length_take] at h1
                rw [List.length_append, List.length_map]; omega
              have hsz := hA.out.2.2.2
              clear hcell hy hX0
              by_cases hin : (⟨ow, nu, ti, ⟨ch, tg, tx, us⟩⟩ : EntS) ∈ mt
              · rw [show thereM mt ⟨ow, nu, ti, ⟨ch, tg, tx, us⟩⟩ = some (.bool true) by unfold thereM; rw [if_pos hin]] at hM
                simp only [Option.getD_some, entV] at hM
                have HIN := Lib.hid hin
                clear hin
                go_wp2_with fail
                go_roundg (all.length - (j + 1))
                case measure => omega
                case rel =>
                  refine ⟨j + 1, u', by go_num, rfl, by omega, hA.out.1.ext HX0.out, ?_, hA.out.2.2.1.trans HX0.out, Nat.le_trans hsz HX0.out.size⟩
                  rw [hT.out, if_neg (by simpa using HIN.out)]
                  exact owns_ext hA.out.2.1 HX0.out
              · rw [show thereM mt ⟨ow, nu, ti, ⟨ch, tg, tx, us⟩⟩ = none by unfold thereM; rw [if_neg hin]] at hM
                simp only [Option.getD_none, entV] at hM
                have HIN := Lib.hid hin
                clear hin
                go_wp2_with (at_builtin; (refine wpList_append_own_at _ rfl _ _ 28 rfl (W3.heap.size + 1) 37 i0 _ 14 152 Tryz.underlying28 hi hz0 hz1 hz2 rfl (by decide) u' _ _ rfl (owns_ext hA.out.2.1 (HX0.out.alloc _)) ⟨wr.heap.size + 1, 0, none⟩ 1 1 (encC (consN ⟨ow, nu, ti, ⟨ch, tg, tx, us⟩⟩)) rfl (by rfl) (news_cons _ _ (by simp) (consN ⟨ow, nu, ti, ⟨ch, tg, tx, us⟩⟩) _ rfl) (by simp [encC, Value.oneCell']) (by unfold maxLen; omega) (by omega) (by simp; omega) ?_; intro u'' w4 hown' hgrow _ _; have HO := Lib.hid (And.intro hown' hgrow); clear hown' hgrow))
                go_roundg (all.length - (j + 1))
                case measure => omega
                case rel =>
                  obtain ⟨h1, h2, h3, h4⟩ := hA.out
                  have hx := HX0.out.alloc (.cells (encC (consN ⟨ow, nu, ti, ⟨ch, tg, tx, us⟩⟩)).toArray 37)
                  have hgr := HO.out.2
                  have hE4 : Ext w1 w4 := ext_owns (owns_ext h2 hx) (h3.trans hx) (by omega) hgr
                  refine ⟨j + 1, u'', by go_num, rfl, by omega, (h1.ext hx).kept hgr (fun e => by have := (h2.lt _ e.symm).1; omega), ?_, hE4, ?_⟩
                  · rw [hT.out, if_pos (by simpa using HIN.out), List.map_append, ← List.append_assoc]
                    simpa [Nat.add_assoc] using HO.out.1
                  · exact Nat.le_trans h4 (Nat.le_trans hx.size hgr.size)
            · obtain rfl : j = all.length := by omega
              go_wp2_with fail
              go_ret2
              obtain ⟨h1, h2, h3, h4⟩ := hA.out
              rw [List.take_length] at h2
              refine ⟨u', rfl, ?_, HX1.out.trans h3⟩
              rw [HCL.out]
              exact Rd.of_owns (enc := encC) (fun _ => rfl) h2
end Go.Proofs.YtehmgeodpjmfaaaGreatDoor
