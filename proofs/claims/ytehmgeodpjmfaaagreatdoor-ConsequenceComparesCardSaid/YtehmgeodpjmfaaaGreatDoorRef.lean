/- law 50: the reference's compare, the walk: it answers as Compare does. -/
import Derived.Deep.LoopGhost
import Derived.Deep.RegionHeld3
import Derived.Deep.AppendLies
import Derived.Test.YtehmgeodpjmfaaaGreatDoorBools
import Derived.Test.YtehmgeodpjmfaaaGreatDoorCompare
import Derived.Test.YtehmgeodpjmfaaaGreatDoorUsedPure
namespace Go.Proofs.YtehmgeodpjmfaaaGreatDoor
open Go.RowKit

theorem set14 {w : World} {b : Nat} {T : TypeId} {x0 x1 x2 x3 x4 x5 x6 x7 x8 x9 x10 x11 x12 x13 : Value} (h : w.heap[b]? = some (Obj.cells #[x0, x1, x2, x3, x4, x5, x6, x7, x8, x9, x10, x11, x12, x13] T (0, 0))) (v0 v9 v10 v11 v12 v13 : Value) :
    ((((((w.setCell ⟨b, 0, none⟩ v0).setCell ⟨b, 9, none⟩ v9).setCell ⟨b, 10, none⟩ v10).setCell ⟨b, 11, none⟩ v11).setCell ⟨b, 12, none⟩ v12).setCell ⟨b, 13, none⟩ v13).heap[b]? = some (Obj.cells #[v0, x1, x2, x3, x4, x5, x6, x7, x8, v9, v10, v11, v12, v13] T (0, 0)) :=
  heap_setCell_at (heap_setCell_at (heap_setCell_at (heap_setCell_at (heap_setCell_at (heap_setCell_at h v0) v9) v10) v11) v12) v13
theorem setC {w : World} {b : Nat} {T : TypeId} (c : ConsS) (h : w.heap[b]? = some (Obj.cells (encC c).toArray T (0, 0))) (k : Int) (o : OutS) (a : Int) :
    ((((((w.setCell ⟨b, 0, none⟩ (.int .i64 k)).setCell ⟨b, 9, none⟩ (.int .i64 o.chan)).setCell ⟨b, 10, none⟩ (.string o.target)).setCell ⟨b, 11, none⟩ (.string o.text)).setCell ⟨b, 12, none⟩ (.int .i64 o.user)).setCell ⟨b, 13, none⟩ (.int .i64 a)).heap[b]? = some (Obj.cells (encC { c with kind := k, new := o, newAt := a }).toArray T (0, 0)) :=
  by
  obtain ⟨kk, ko, kn, kp, ⟨oc, og, ox, ou⟩, ka, ⟨nc, ng, nx, nw⟩, kt⟩ := c
  exact set14 h _ _ _ _ _ _
theorem setC_grown (w : World) (b : Nat) (v1 v2 v3 v4 v5 v6 : Value) :
    w.grownBy ((((((w.setCell ⟨b, 0, none⟩ v1).setCell ⟨b, 9, none⟩ v2).setCell ⟨b, 10, none⟩ v3).setCell ⟨b, 11, none⟩ v4).setCell ⟨b, 12, none⟩ v5).setCell ⟨b, 13, none⟩ v6) (some b) :=
  (((((setCell_grown _ b 0 v1).trans (setCell_grown _ b 9 v2)).trans (setCell_grown _ b 10 v3)).trans (setCell_grown _ b 11 v4)).trans (setCell_grown _ b 12 v5)).trans (setCell_grown _ b 13 v6)
/-- What one round of the reference keeps. -/
structure RS1 (w1 : World) (bu b9 b11 : Nat) (x : LeftS) (c : ConsS) (S : List Bool) (u : Value) (cl : List ConsS) (wx : World) : Prop where
  bools : BoolsAt wx bu S
  left : wx.heap[b9]? = some (Obj.cells (encL x).toArray 52 (0, 0))
  cons : wx.heap[b11]? = some (Obj.cells (encC c).toArray 37 (0, 0))
  row : wx.ownsRow (w1.heap.size + 1) 37 14 u cl.length (cl.flatMap encC)
  ext : Ext w1 wx
  ub : ∀ k, u.ownBlock = some k → k < b9
theorem RS1.alloc {w1 wx wy : World} {bu b9 b11 : Nat} {x : LeftS} {c : ConsS} {S : List Bool} {u : Value} {cl : List ConsS} (h : RS1 w1 bu b9 b11 x c S u cl wx) (hx : Ext wx wy) : RS1 w1 bu b9 b11 x c S u cl wy :=
  ⟨h.bools.ext hx, (hx.block (Array.getElem?_eq_some_iff.1 h.left).1).trans h.left, (hx.block (Array.getElem?_eq_some_iff.1 h.cons).1).trans h.cons, owns_ext h.row hx, h.ext.trans hx, h.ub⟩
theorem RS1.setC {w1 wx : World} {bu b9 b11 : Nat} {x : LeftS} {c : ConsS} {S : List Bool} {u : Value} {cl : List ConsS} (h : RS1 w1 bu b9 b11 x c S u cl wx) (hb : bu = w1.heap.size) (h9 : bu < b9) (h11 : b9 < b11) (k : Int) (o : OutS) (a : Int) :
    RS1 w1 bu b9 b11 x { c with kind := k, new := o, newAt := a } S u cl ((((((wx.setCell ⟨b11, 0, none⟩ (.int .i64 k)).setCell ⟨b11, 9, none⟩ (.int .i64 o.chan)).setCell ⟨b11, 10, none⟩ (.string o.target)).setCell ⟨b11, 11, none⟩ (.string o.text)).setCell ⟨b11, 12, none⟩ (.int .i64 o.user)).setCell ⟨b11, 13, none⟩ (.int .i64 a)) := by
  have hg := setC_grown wx b11 (.int .i64 k) (.int .i64 o.chan) (.string o.target) (.string o.text) (.int .i64 o.user) (.int .i64 a)
  refine ⟨h.bools.kept hg (by simp; omega), (hg.block b9 (Array.getElem?_eq_some_iff.1 h.left).1 (by simp; omega)).trans h.left, Go.Proofs.YtehmgeodpjmfaaaGreatDoor.setC c h.cons k o a, h.row.kept hg (.inr (fun e => ?_)), Below.grown h.ext hg h.ext.size (fun k e => by cases e; omega), h.ub⟩
  have := h.ub _ e
  omega
theorem RS1.setB {w1 wx : World} {bu b9 b11 : Nat} {x : LeftS} {c : ConsS} {S : List Bool} {u : Value} {cl : List ConsS} (h : RS1 w1 bu b9 b11 x c S u cl wx) (hb : bu = w1.heap.size) (h9 : bu < b9) (h11 : b9 < b11) (i : Nat) :
    RS1 w1 bu b9 b11 x c (S.set i true) u cl (wx.setCell ⟨bu, i, none⟩ (.bool true)) := by
  have hg := setCell_grown wx bu i (.bool true)
  refine ⟨h.bools.set i true, (hg.block b9 (Array.getElem?_eq_some_iff.1 h.left).1 (by simp; omega)).trans h.left, (hg.block b11 (Array.getElem?_eq_some_iff.1 h.cons).1 (by simp; omega)).trans h.cons, h.row.kept hg (.inr (fun e => ?_)), Below.grown h.ext hg h.ext.size (fun k e => by cases e; omega), h.ub⟩
  have := (h.row.lt _ e).1
  omega

set_option maxHeartbeats 8000000 in
set_option maxRecDepth 100000 in
theorem ref_any (t : BT) (ps : Option Addr) (p : Nat) (l : List LeftS) (v : Value) (w : World) (hS : IsS w ps t) (hok : AllOk t) (hvk : ValOk t) (hsz : t.sz ≤ 1000)
    (hL : LAt w p l v) (hll : l.length ≤ 1000) (hE : ∀ e ∈ allL t, EntOk e) (hlE : ∀ x ∈ l, EntOk x.ent) (hnd : (allL t).Nodup) :
    Calls Tryz.prog 15 #[.pointer (some ⟨p, 0, none⟩), .pointer ps] w fun e w' => ∃ u, e = .returned u ∧ Rd w' 14 encC u (compareL (allL t) l) ∧ Ext w w' := by
  obtain ⟨i0, hi, hz0, hz1, hz2⟩ := info_parts info_cons
  have HA := Lib.hid (fun W hW => all_any t ps W hW hok hvk (by omega))
  have HS := Lib.hid hS
  have HL := Lib.hid hL
  have halen : (allL t).length ≤ 1000 := by
    unfold allL
    refine Nat.le_trans (List.length_filterMap_le _ _) (Nat.le_trans (List.length_filter_le _ _) ?_)
    rw [List.length_map, ← BT.sz_eq]; exact hsz
  have HE := Lib.hid hE
  have HlE := Lib.hid hlE
  have HND := Lib.hid hnd
  generalize allL t = all at HA HE HND halen ⊢
  clear hok hvk hsz hS hL hE hlE hnd
  have hmb := make_bools' all.length (by omega)
  go_enter Tryz.func15, Tryz.ntmps15
  go_wp2_with fail
  (with_reducible refine (HA.out _ HS.out).mono ?_)
  rintro e w1 ⟨av, rfl, hr1, hx1⟩
  obtain ⟨hm1, A, c, rfl, hcs⟩ := id hr1
  have HX1 := Lib.hid hx1
  have HC := Lib.hid hcs
  clear hr1 hx1 hcs
  go_wp2_with fail
  go_loopg [7, 8] l.length (fun g a d wx => ∃ (j : Nat) (u : Value) (S : List Bool), d = .int .i64 j ∧ a = u ∧ j + g = l.length ∧ Aside (BoolsAt wx w1.heap.size S ∧ Marks all (metL all (l.take j)) S ∧ wx.ownsRow (w1.heap.size + 1) 37 14 u (consL all 0 (l.take j)).length ((consL all 0 (l.take j)).flatMap encC) ∧ Ext w1 wx))
  case atStart => exact ⟨0, _, _, rfl, rfl, by omega, BoolsAt.made' w1 _, Marks.start all, World.ownsRow_nil _ _ _ _, (Ext.refl w1).alloc _⟩
  case round =>
    obtain ⟨j, u, S, rfl, hu, hg, hA⟩ := hrel
    have hu' := hu.symm
    subst hu'
    clear hu
    have HLN := Lib.hid (llen_any p l v _ ((HL.out.ext HX1.out).ext hA.out.2.2.2))
    by_cases hlt : j < l.length
    · have HGet := Lib.hid (fun W hW => lget_ok p l v j hlt W hW)
      have hxE := HlE.out _ (List.getElem_mem hlt)
      have hcT := Lib.hid (consL_take all l j hlt)
      have hmT := Lib.hid (metL_take all l j hlt)
      have hclen : (consL all 0 (l.take j)).length ≤ 1000 := by rw [consL_len, List.length_take]; omega
      generalize l[j] = xx at HGet hxE hcT hmT
      generalize consL all 0 (l.take j) = cl at hA hcT hclen
      generalize metL all (l.take j) = M at hA hmT
      obtain ⟨ee, at_, rn⟩ := xx
      simp only at hxE hcT hmT
      have HXO := Lib.hid hxE.out
      obtain ⟨ow, nu, ti, ⟨ch, tg, tx, us⟩⟩ := ee
      simp only [leftV] at HGet
      clear hxE
      go_wp2_with (go_at_call 13; (with_reducible refine HLN.out.mono ?_); rintro e w' ⟨rfl, rfl⟩)
      (with_reducible refine (HGet.out _ ((HL.out.ext HX1.out).ext hA.out.2.2.2)).mono ?_)
      rintro e w2 ⟨rfl, hx2⟩
      have hsz1 : w1.heap.size < w2.heap.size := Nat.lt_of_lt_of_le hA.out.1.lt hx2.size
      have hST : RS1 w1 w1.heap.size w2.heap.size (w2.heap.size + 1) ⟨⟨ow, nu, ti, ⟨ch, tg, tx, us⟩⟩, at_, rn⟩ ⟨2, ow, nu, j, ⟨ch, tg, tx, us⟩, ti, outZ, 0⟩ S u cl ((w2.alloc (.cells #[.string ow, .int .i64 nu, .int .i64 ti, .int .i64 ch, .string tg, .string tx, .int .i64 us, .int .i64 at_, .int .i64 rn] 52)).alloc (.cells #[.int .i64 2, .string ow, .int .i64 nu, .int .i64 j, .int .i64 ch, .string tg, .string tx, .int .i64 us, .int .i64 ti, .int .i64 0, .string ⟨#[]⟩, .string ⟨#[]⟩, .int .i64 0, .int .i64 0] 37)) := by
        obtain ⟨k1, k2, k3, k4⟩ := hA.out
        have hx3 : Ext wr ((w2.alloc (.cells #[.string ow, .int .i64 nu, .int .i64 ti, .int .i64 ch, .string tg, .string tx, .int .i64 us, .int .i64 at_, .int .i64 rn] 52)).alloc (.cells #[.int .i64 2, .string ow, .int .i64 nu, .int .i64 j, .int .i64 ch, .string tg, .string tx, .int .i64 us, .int .i64 ti, .int .i64 0, .string ⟨#[]⟩, .string ⟨#[]⟩, .int .i64 0, .int .i64 0] 37)) := (hx2.alloc _).alloc _
        refine ⟨k1.ext hx3, ?_, ?_, owns_ext k3 hx3, k4.trans hx3, fun k e => Nat.lt_of_lt_of_le (k3.lt k e).2 hx2.size⟩
        · exact (Below.heap_alloc _ _ _ (by simp)).trans (heap_new w2 _)
        · have := heap_new (w2.alloc (.cells #[.string ow, .int .i64 nu, .int .i64 ti, .int .i64 ch, .string tg, .string tx, .int .i64 us, .int .i64 at_, .int .i64 rn] 52)) (.cells #[.int .i64 2, .string ow, .int .i64 nu, .int .i64 j, .int .i64 ch, .string tg, .string tx, .int .i64 us, .int .i64 ti, .int .i64 0, .string ⟨#[]⟩, .string ⟨#[]⟩, .int .i64 0, .int .i64 0] 37)
          rwa [show (w2.alloc (.cells #[.string ow, .int .i64 nu, .int .i64 ti, .int .i64 ch, .string tg, .string tx, .int .i64 us, .int .i64 at_, .int .i64 rn] 52)).heap.size = w2.heap.size + 1 by simp] at this
      have HST := Lib.hid hST
      have HMK := Lib.hid hA.out.2.1
      clear hST hA hx2
      go_wp2_with fail
      go_loopg [12, 13] all.length (fun g f d wx => ∃ (i : Nat) (fi : Int) (S : List Bool), d = .int .i64 i ∧ f = .int .i64 fi ∧ i + g = all.length ∧ Aside (RS1 w1 w1.heap.size w2.heap.size (w2.heap.size + 1) ⟨⟨ow, nu, ti, ⟨ch, tg, tx, us⟩⟩, at_, rn⟩ (consI all i j ⟨ow, nu, ti, ⟨ch, tg, tx, us⟩⟩) S u cl wx ∧ Used all M i ⟨ow, nu, ti, ⟨ch, tg, tx, us⟩⟩ S ∧ FirstIs all i ⟨ow, nu⟩ fi))
      case atStart => exact ⟨0, -1, S, rfl, rfl, by omega, by rw [consI_start]; exact HST.out, HMK.out.used _, FirstIs.start _ _⟩
      case round =>
        obtain ⟨i, fi, S2, rfl, rfl, hgi, hA⟩ := hrel
        clear HST HMK
        by_cases hlti : i < all.length
        · obtain ⟨b, off, rfl, hb, hcell⟩ := HC.out (by omega)
          have hy := hcell i hlti
          have heE := HE.out _ (List.getElem_mem hlti)
          have hST := hA.out.1
          have HU := Lib.hid hA.out.2.1
          have HFI := Lib.hid hA.out.2.2
          generalize hen : all[i] = en at hy heE
          have HEN := Lib.hid hen
          have HYO := Lib.hid heE.out
          obtain ⟨yo, yn, yt, ⟨yc, yg, yx, yu⟩⟩ := en
          have y0 := hST.ext.cell_some (hy 0 (.string yo) rfl)
          have y1 := hST.ext.cell_some (hy 1 (.int .i64 yn) rfl)
          have y2 := hST.ext.cell_some (hy 2 (.int .i64 yt) rfl)
          have y3 := hST.ext.cell_some (hy 3 (.int .i64 yc) rfl)
          have y4 := hST.ext.cell_some (hy 4 (.string yg) rfl)
          have y5 := hST.ext.cell_some (hy 5 (.string yx) rfl)
          have y6 := hST.ext.cell_some (hy 6 (.int .i64 yu) rfl)
          simp only [Nat.add_zero] at y0
          have hX : Ext wr (wr.alloc (.cells #[.string yo, .int .i64 yn, .int .i64 yt, .int .i64 yc, .string yg, .string yx, .int .i64 yu] 41)) := (Ext.refl wr).alloc _
          have hS2 := hST.alloc hX
          have g0 : (wr.alloc (.cells #[.string yo, .int .i64 yn, .int .i64 yt, .int .i64 yc, .string yg, .string yx, .int .i64 yu] 41)).cell? ⟨w2.heap.size, 0, none⟩ = some (.string ow) := (cells_at hS2.left).1 0 _ rfl
          have g1 : (wr.alloc (.cells #[.string yo, .int .i64 yn, .int .i64 yt, .int .i64 yc, .string yg, .string yx, .int .i64 yu] 41)).cell? ⟨w2.heap.size, 1, none⟩ = some (.int .i64 nu) := (cells_at hS2.left).1 1 _ rfl
          have g2 : (wr.alloc (.cells #[.string yo, .int .i64 yn, .int .i64 yt, .int .i64 yc, .string yg, .string yx, .int .i64 yu] 41)).cell? ⟨w2.heap.size, 2, none⟩ = some (.int .i64 ti) := (cells_at hS2.left).1 2 _ rfl
          have g3 : (wr.alloc (.cells #[.string yo, .int .i64 yn, .int .i64 yt, .int .i64 yc, .string yg, .string yx, .int .i64 yu] 41)).cell? ⟨w2.heap.size, 3, none⟩ = some (.int .i64 ch) := (cells_at hS2.left).1 3 _ rfl
          have g4 : (wr.alloc (.cells #[.string yo, .int .i64 yn, .int .i64 yt, .int .i64 yc, .string yg, .string yx, .int .i64 yu] 41)).cell? ⟨w2.heap.size, 4, none⟩ = some (.string tg) := (cells_at hS2.left).1 4 _ rfl
          have g5 : (wr.alloc (.cells #[.string yo, .int .i64 yn, .int .i64 yt, .int .i64 yc, .string yg, .string yx, .int .i64 yu] 41)).cell? ⟨w2.heap.size, 5, none⟩ = some (.string tx) := (cells_at hS2.left).1 5 _ rfl
          have g6 : (wr.alloc (.cells #[.string yo, .int .i64 yn, .int .i64 yt, .int .i64 yc, .string yg, .string yx, .int .i64 yu] 41)).cell? ⟨w2.heap.size, 6, none⟩ = some (.int .i64 us) := (cells_at hS2.left).1 6 _ rfl
          have heq := fun W => eql_out ⟨yc, yg, yx, yu⟩ ⟨ch, tg, tx, us⟩ HYO.out HXO.out W
          simp only [outVs] at heq
          have HS2 := Lib.hid hS2
          clear hy hcell heE hen hA hST hS2 hX
          have hfr := HFI.out.range
          by_cases h1 : yo = ow ∧ yn = nu
          case neg =>
            have HNE := Lib.hid h1
            have hne : (¬ yo.toList = ow.toList) ∨ (yo.toList = ow.toList ∧ (yn != nu) = true) := by
              by_cases e : yo = ow
              · right
                exact ⟨by rw [e], by simpa using fun e2 => h1 ⟨e, e2⟩⟩
              · exact .inl (ba_ne e)
            clear h1
            rcases hne with hne | ⟨hne, hne2⟩
            all_goals
              go_wp2_with fail
              go_roundg (all.length - (i + 1))
              case measure => omega
              case rel =>
                have hsl : slotOf all[i] ≠ ⟨ow, nu⟩ := by
                  rw [HEN.out]
                  intro e
                  simp only [slotOf, SlotS.mk.injEq] at e
                  exact HNE.out e
                have hno : all[i] ≠ ⟨ow, nu, ti, ⟨ch, tg, tx, us⟩⟩ := fun e => hsl (by rw [e]; rfl)
                exact ⟨i + 1, fi, S2, by go_num, rfl, by omega, by rw [consI_other hlti hno]; exact HS2.out, HU.out.other hlti hno, HFI.out.other hlti hsl⟩
          case pos =>
            obtain ⟨h1, h2⟩ := h1
            subst h1 h2
            have HSL : Hid (slotOf all[i] = ⟨yo, yn⟩) := Lib.hid (by rw [HEN.out]; rfl)
            have HF2 : Hid (∃ f2 : Int, f2 = (if fi < 0 then (i : Int) else fi) ∧ FirstIs all (i + 1) ⟨yo, yn⟩ f2) := Lib.hid (by
              refine ⟨_, rfl, ?_⟩
              split
              · exact HFI.out.found (by assumption) hlti HSL.out
              · exact HFI.out.keep (by omega))
            by_cases h3 : yt = ti ∧ (⟨yc, yg, yx, yu⟩ : OutS) = ⟨ch, tg, tx, us⟩
            case neg =>
              have HNE := Lib.hid h3
              have hcase : ¬ yt = ti ∨ (yt = ti ∧ decide ((⟨yc, yg, yx, yu⟩ : OutS) = ⟨ch, tg, tx, us⟩) = false) := by
                by_cases e : yt = ti
                · exact .inr ⟨e, by simp only [decide_eq_false_iff_not]; exact fun e2 => h3 ⟨e, e2⟩⟩
                · exact .inl e
              have HNO : Hid (all[i] ≠ ⟨yo, yn, ti, ⟨ch, tg, tx, us⟩⟩) := Lib.hid (fun e => by
                rw [HEN.out] at e
                simp only [EntS.mk.injEq, true_and] at e
                exact HNE.out e)
              clear h3
              rcases hcase with h3 | ⟨h3, h4⟩
              case' inr => (rw [h4] at heq; subst h3)
              all_goals
                rcases (show fi < 0 ∨ ¬ fi < 0 by omega) with hf | hf
                all_goals
                  go_wp2_with fail
                  go_roundg (all.length - (i + 1))
                  case measure => omega
                  case rel =>
                    obtain ⟨f2, hf2, hF2⟩ := HF2.out
                    first | rw [if_pos hf] at hf2 | rw [if_neg (by omega)] at hf2
                    subst hf2
                    have hno := HNO.out
                    exact ⟨i + 1, _, S2, by go_num, rfl, by omega, by rw [consI_other hlti hno]; exact HS2.out, HU.out.other hlti hno, hF2⟩
            case pos =>
              obtain ⟨h3, h4⟩ := h3
              subst h3
              rw [show decide ((⟨yc, yg, yx, yu⟩ : OutS) = ⟨ch, tg, tx, us⟩) = true by simpa using h4] at heq
              have HIT : Hid (all[i] = ⟨yo, yn, yt, ⟨ch, tg, tx, us⟩⟩) := Lib.hid (by rw [HEN.out, h4])
              clear h4
              rcases (show fi < 0 ∨ ¬ fi < 0 by omega) with hf | hf
              all_goals
                go_wp2_with fail
                have hS1 := HS2.out
                clear g0 g1 g2 g3 g4 g5 g6
                generalize (wr.alloc (.cells #[.string yo, .int .i64 yn, .int .i64 yt, .int .i64 yc, .string yg, .string yx, .int .i64 yu] 41)) = W1 at hS1 ⊢
                have g2 : W1.cell? ⟨w2.heap.size, 2, none⟩ = some (.int .i64 yt) := (cells_at hS1.left).1 2 _ rfl
                have g3 : W1.cell? ⟨w2.heap.size, 3, none⟩ = some (.int .i64 ch) := (cells_at hS1.left).1 3 _ rfl
                have g4 : W1.cell? ⟨w2.heap.size, 4, none⟩ = some (.string tg) := (cells_at hS1.left).1 4 _ rfl
                have g5 : W1.cell? ⟨w2.heap.size, 5, none⟩ = some (.string tx) := (cells_at hS1.left).1 5 _ rfl
                have g6 : W1.cell? ⟨w2.heap.size, 6, none⟩ = some (.int .i64 us) := (cells_at hS1.left).1 6 _ rfl
                have HS3 := Lib.hid hS1
                have hCI : ∃ CI, CI = consI all i j ⟨yo, yn, yt, ⟨ch, tg, tx, us⟩⟩ := ⟨_, rfl⟩
                obtain ⟨CI, hCI⟩ := hCI
                rw [← hCI] at hS1
                have HCI := Lib.hid hCI
                obtain ⟨ck, co, cn, cp, ⟨qc, qg, qx, qu⟩, ca, ⟨rc, rg, rx, ru⟩, ct⟩ := CI
                have d0 : W1.cell? ⟨w2.heap.size + 1, 0, none⟩ = some (.int .i64 ck) := (cells_at hS1.cons).1 0 _ rfl
                have d9 : W1.cell? ⟨w2.heap.size + 1, 9, none⟩ = some (.int .i64 rc) := (cells_at hS1.cons).1 9 _ rfl
                have d10 : W1.cell? ⟨w2.heap.size + 1, 10, none⟩ = some (.string rg) := (cells_at hS1.cons).1 10 _ rfl
                have d11 : W1.cell? ⟨w2.heap.size + 1, 11, none⟩ = some (.string rx) := (cells_at hS1.cons).1 11 _ rfl
                have d12 : W1.cell? ⟨w2.heap.size + 1, 12, none⟩ = some (.int .i64 ru) := (cells_at hS1.cons).1 12 _ rfl
                have d13 : W1.cell? ⟨w2.heap.size + 1, 13, none⟩ = some (.int .i64 ct) := (cells_at hS1.cons).1 13 _ rfl
                have f0 := (cells_at hS1.cons).2 0
                have f9 := (cells_at hS1.cons).2 9
                have f10 := (cells_at hS1.cons).2 10
                have f11 := (cells_at hS1.cons).2 11
                have f12 := (cells_at hS1.cons).2 12
                have f13 := (cells_at hS1.cons).2 13
                clear hS1 hCI
                clear heq hmb hb
                have hne1 : w2.heap.size ≠ w2.heap.size + 1 := Nat.ne_of_lt (Nat.lt_succ_self _)
                have hfar : ∀ (W : World) (v : Value) (k j : Nat), (W.setCell ⟨w2.heap.size + 1, k, none⟩ v).cell? ⟨w2.heap.size, j, none⟩ = W.cell? ⟨w2.heap.size, j, none⟩ := fun W v k j => World.cell?_setCell_far _ _ _ _ (Nat.succ_ne_self _)
                go_region_held3 (fun W => W.cell? ⟨w2.heap.size, 2, none⟩ = some (.int .i64 yt) ∧ W.cell? ⟨w2.heap.size, 3, none⟩ = some (.int .i64 ch) ∧ W.cell? ⟨w2.heap.size, 4, none⟩ = some (.string tg) ∧ W.cell? ⟨w2.heap.size, 5, none⟩ = some (.string tx) ∧ W.cell? ⟨w2.heap.size, 6, none⟩ = some (.int .i64 us))
                  (simp only [World.cell?_drew, hfar, g2, g3, g4, g5, g6, and_self]) (fail)
                go_upto_region 19 with fail
                have hS4 := (HS3.out.setC rfl hsz1 (Nat.lt_succ_self _) 1 ⟨ch, tg, tx, us⟩ yt).alloc ((Ext.refl _).drew)
                rw [consI_set] at hS4
                simp only at hS4
                generalize World.drew (World.setCell _ ⟨w2.heap.size + 1, 13, none⟩ (.int .i64 yt)) = W4 at hS4 ⊢
                clear d0 d9 d10 d11 d12 d13 f0 f9 f10 f11 f12 f13
                have hl2 := HU.out.len
                obtain ⟨cb, cf⟩ := hS4.bools.cell i (by omega)
                have HS4 := Lib.hid hS4
                clear hS4
                go_wp2_with fail
                go_roundg (all.length - (i + 1))
                case measure => omega
                case rel =>
                  obtain ⟨f2, hf2, hF2⟩ := HF2.out
                  first | rw [if_pos hf] at hf2 | rw [if_neg (by omega)] at hf2
                  subst hf2
                  exact ⟨i + 1, _, _, by go_num, rfl, by omega, by rw [consI_hit hlti HIT.out]; exact HS4.out.setB rfl hsz1 (Nat.lt_succ_self _) i, HU.out.hit hlti HIT.out, hF2⟩
        · obtain rfl : i = all.length := by omega
          have hST := hA.out.1
          have HU := Lib.hid hA.out.2.1
          have HFI := Lib.hid hA.out.2.2
          have hfr := HFI.out.range
          by_cases he : ⟨ow, nu, ti, ⟨ch, tg, tx, us⟩⟩ ∈ all
          case pos =>
            have d0 : wr.cell? ⟨w2.heap.size + 1, 0, none⟩ = some (.int .i64 1) := by
              have hc := hST.cons
              rw [consI_full, if_pos he] at hc
              exact (cells_at hc).1 0 _ rfl
            have HR9 : Hid (RS1 w1 w1.heap.size w2.heap.size (w2.heap.size + 1) ⟨⟨ow, nu, ti, ⟨ch, tg, tx, us⟩⟩, at_, rn⟩ (consOf all j ⟨ow, nu, ti, ⟨ch, tg, tx, us⟩⟩) S2 u cl wr ∧ Marks all (M ++ (metOf all ⟨ow, nu, ti, ⟨ch, tg, tx, us⟩⟩).toList) S2) := Lib.hid ⟨by rw [← consOf_there he]; exact hST, HU.out.there he⟩
            clear hST hA he
            obtain ⟨W9, hW9⟩ : ∃ W9 : World, W9 = wr := ⟨_, rfl⟩
            obtain ⟨S9, hS9⟩ : ∃ S9, S9 = S2 := ⟨_, rfl⟩
            subst hW9 hS9
            go_upto_region 23 with fail
            clear d0
            have hR := HR9.out.1
            generalize hcc : consOf all j ⟨ow, nu, ti, ⟨ch, tg, tx, us⟩⟩ = CC at hR
            have HCC := Lib.hid hcc
            obtain ⟨kk, ko, kn, kp, ⟨oc, og, ox, ou⟩, ka, ⟨nc, ng, nx, nw⟩, kt⟩ := CC
            have d0 : W9.cell? ⟨w2.heap.size + 1, 0, none⟩ = some (.int .i64 kk) := (cells_at hR.cons).1 0 _ rfl
            have d1 : W9.cell? ⟨w2.heap.size + 1, 1, none⟩ = some (.string ko) := (cells_at hR.cons).1 1 _ rfl
            have d2 : W9.cell? ⟨w2.heap.size + 1, 2, none⟩ = some (.int .i64 kn) := (cells_at hR.cons).1 2 _ rfl
            have d3 : W9.cell? ⟨w2.heap.size + 1, 3, none⟩ = some (.int .i64 kp) := (cells_at hR.cons).1 3 _ rfl
            have d4 : W9.cell? ⟨w2.heap.size + 1, 4, none⟩ = some (.int .i64 oc) := (cells_at hR.cons).1 4 _ rfl
            have d5 : W9.cell? ⟨w2.heap.size + 1, 5, none⟩ = some (.string og) := (cells_at hR.cons).1 5 _ rfl
            have d6 : W9.cell? ⟨w2.heap.size + 1, 6, none⟩ = some (.string ox) := (cells_at hR.cons).1 6 _ rfl
            have d7 : W9.cell? ⟨w2.heap.size + 1, 7, none⟩ = some (.int .i64 ou) := (cells_at hR.cons).1 7 _ rfl
            have d8 : W9.cell? ⟨w2.heap.size + 1, 8, none⟩ = some (.int .i64 ka) := (cells_at hR.cons).1 8 _ rfl
            have d9 : W9.cell? ⟨w2.heap.size + 1, 9, none⟩ = some (.int .i64 nc) := (cells_at hR.cons).1 9 _ rfl
            have d10 : W9.cell? ⟨w2.heap.size + 1, 10, none⟩ = some (.string ng) := (cells_at hR.cons).1 10 _ rfl
            have d11 : W9.cell? ⟨w2.heap.size + 1, 11, none⟩ = some (.string nx) := (cells_at hR.cons).1 11 _ rfl
            have d12 : W9.cell? ⟨w2.heap.size + 1, 12, none⟩ = some (.int .i64 nw) := (cells_at hR.cons).1 12 _ rfl
            have d13 : W9.cell? ⟨w2.heap.size + 1, 13, none⟩ = some (.int .i64 kt) := (cells_at hR.cons).1 13 _ rfl
            have HRR := Lib.hid hR
            have hrow := hR.row
            have hs9 := hR.bools.lt
            clear hR hcc
            go_wp2_with (at_builtin; (refine wpList_append_own_at _ rfl _ _ 28 rfl (w1.heap.size + 1) 37 i0 _ 14 152 Tryz.underlying28 hi hz0 hz1 hz2 rfl (by decide) u _ _ rfl (owns_ext hrow ((Ext.refl W9).alloc _)) ⟨W9.heap.size, 0, none⟩ 1 1 (encC ⟨kk, ko, kn, kp, ⟨oc, og, ox, ou⟩, ka, ⟨nc, ng, nx, nw⟩, kt⟩) rfl (by rfl) (news_cons W9 _ rfl ⟨kk, ko, kn, kp, ⟨oc, og, ox, ou⟩, ka, ⟨nc, ng, nx, nw⟩, kt⟩ _ rfl) (by simp [encC, Value.oneCell']) (by unfold maxLen; omega) (by omega) (by simp; omega) ?_; intro u' w4 hown' hgrow _ _; have HO := Lib.hid (And.intro hown' hgrow); clear hown' hgrow))
            go_roundg (l.length - (j + 1))
            case measure => omega
            case rel =>
              have hR := HRR.out
              have hx : Ext W9 (W9.alloc _) := (Ext.refl W9).alloc (.cells (encC ⟨kk, ko, kn, kp, ⟨oc, og, ox, ou⟩, ka, ⟨nc, ng, nx, nw⟩, kt⟩).toArray 37)
              have hgr := HO.out.2
              refine ⟨j + 1, u', S9, by go_num, rfl, by omega, (hR.bools.ext hx).kept hgr (fun e => by have := (hR.row.lt _ e.symm).1; omega), ?_, ?_, ext_owns (owns_ext hR.row hx) (hR.ext.trans hx) (by omega) hgr⟩
              · rw [hmT.out]; exact HR9.out.2
              · rw [hcT.out, HCC.out]
                simpa using HO.out.1
          case neg =>
            have d0 : wr.cell? ⟨w2.heap.size + 1, 0, none⟩ = some (.int .i64 2) := by
              have hc := hST.cons
              rw [consI_full, if_neg he] at hc
              exact (cells_at hc).1 0 _ rfl
            rcases hfr with rfl | ⟨f, rfl, hf⟩
            · have hno := HFI.out.none
              have HR9 : Hid (RS1 w1 w1.heap.size w2.heap.size (w2.heap.size + 1) ⟨⟨ow, nu, ti, ⟨ch, tg, tx, us⟩⟩, at_, rn⟩ (consOf all j ⟨ow, nu, ti, ⟨ch, tg, tx, us⟩⟩) S2 u cl wr ∧ Marks all (M ++ (metOf all ⟨ow, nu, ti, ⟨ch, tg, tx, us⟩⟩).toList) S2) := Lib.hid ⟨by rw [← consOf_nowhere he hno]; exact hST, HU.out.nowhere he hno⟩
              clear hST hA he hno
              obtain ⟨W9, hW9⟩ : ∃ W9 : World, W9 = wr := ⟨_, rfl⟩
              obtain ⟨S9, hS9⟩ : ∃ S9, S9 = S2 := ⟨_, rfl⟩
              subst hW9 hS9
              go_upto_region 23 with fail
              clear d0
              have hR := HR9.out.1
              generalize hcc : consOf all j ⟨ow, nu, ti, ⟨ch, tg, tx, us⟩⟩ = CC at hR
              have HCC := Lib.hid hcc
              obtain ⟨kk, ko, kn, kp, ⟨oc, og, ox, ou⟩, ka, ⟨nc, ng, nx, nw⟩, kt⟩ := CC
              have d0 : W9.cell? ⟨w2.heap.size + 1, 0, none⟩ = some (.int .i64 kk) := (cells_at hR.cons).1 0 _ rfl
              have d1 : W9.cell? ⟨w2.heap.size + 1, 1, none⟩ = some (.string ko) := (cells_at hR.cons).1 1 _ rfl
              have d2 : W9.cell? ⟨w2.heap.size + 1, 2, none⟩ = some (.int .i64 kn) := (cells_at hR.cons).1 2 _ rfl
              have d3 : W9.cell? ⟨w2.heap.size + 1, 3, none⟩ = some (.int .i64 kp) := (cells_at hR.cons).1 3 _ rfl
              have d4 : W9.cell? ⟨w2.heap.size + 1, 4, none⟩ = some (.int .i64 oc) := (cells_at hR.cons).1 4 _ rfl
              have d5 : W9.cell? ⟨w2.heap.size + 1, 5, none⟩ = some (.string og) := (cells_at hR.cons).1 5 _ rfl
              have d6 : W9.cell? ⟨w2.heap.size + 1, 6, none⟩ = some (.string ox) := (cells_at hR.cons).1 6 _ rfl
              have d7 : W9.cell? ⟨w2.heap.size + 1, 7, none⟩ = some (.int .i64 ou) := (cells_at hR.cons).1 7 _ rfl
              have d8 : W9.cell? ⟨w2.heap.size + 1, 8, none⟩ = some (.int .i64 ka) := (cells_at hR.cons).1 8 _ rfl
              have d9 : W9.cell? ⟨w2.heap.size + 1, 9, none⟩ = some (.int .i64 nc) := (cells_at hR.cons).1 9 _ rfl
              have d10 : W9.cell? ⟨w2.heap.size + 1, 10, none⟩ = some (.string ng) := (cells_at hR.cons).1 10 _ rfl
              have d11 : W9.cell? ⟨w2.heap.size + 1, 11, none⟩ = some (.string nx) := (cells_at hR.cons).1 11 _ rfl
              have d12 : W9.cell? ⟨w2.heap.size + 1, 12, none⟩ = some (.int .i64 nw) := (cells_at hR.cons).1 12 _ rfl
              have d13 : W9.cell? ⟨w2.heap.size + 1, 13, none⟩ = some (.int .i64 kt) := (cells_at hR.cons).1 13 _ rfl
              have HRR := Lib.hid hR
              have hrow := hR.row
              have hs9 := hR.bools.lt
              clear hR hcc
              go_wp2_with (at_builtin; (refine wpList_append_own_at _ rfl _ _ 28 rfl (w1.heap.size + 1) 37 i0 _ 14 152 Tryz.underlying28 hi hz0 hz1 hz2 rfl (by decide) u _ _ rfl (owns_ext hrow ((Ext.refl W9).alloc _)) ⟨W9.heap.size, 0, none⟩ 1 1 (encC ⟨kk, ko, kn, kp, ⟨oc, og, ox, ou⟩, ka, ⟨nc, ng, nx, nw⟩, kt⟩) rfl (by rfl) (news_cons W9 _ rfl ⟨kk, ko, kn, kp, ⟨oc, og, ox, ou⟩, ka, ⟨nc, ng, nx, nw⟩, kt⟩ _ rfl) (by simp [encC, Value.oneCell']) (by unfold maxLen; omega) (by omega) (by simp; omega) ?_; intro u' w4 hown' hgrow _ _; have HO := Lib.hid (And.intro hown' hgrow); clear hown' hgrow))
              go_roundg (l.length - (j + 1))
              case measure => omega
              case rel =>
                have hR := HRR.out
                have hx : Ext W9 (W9.alloc _) := (Ext.refl W9).alloc (.cells (encC ⟨kk, ko, kn, kp, ⟨oc, og, ox, ou⟩, ka, ⟨nc, ng, nx, nw⟩, kt⟩).toArray 37)
                have hgr := HO.out.2
                refine ⟨j + 1, u', S9, by go_num, rfl, by omega, (hR.bools.ext hx).kept hgr (fun e => by have := (hR.row.lt _ e.symm).1; omega), ?_, ?_, ext_owns (owns_ext hR.row hx) (hR.ext.trans hx) (by omega) hgr⟩
                · rw [hmT.out]; exact HR9.out.2
                · rw [hcT.out, HCC.out]
                  simpa using HO.out.1
            · have hsm := HFI.out.some hf
              have HSM := Lib.hid hsm
              have HEE := Lib.hid he
              obtain ⟨b, off, rfl, hb, hcell⟩ := HC.out (by omega)
              have hy := hcell f hf
              generalize hen : all[f] = en at hy hsm
              have HEN := Lib.hid hen
              obtain ⟨yo, yn, yt, ⟨yc, yg, yx, yu⟩⟩ := en
              have y2 := hST.ext.cell_some (hy 2 (.int .i64 yt) rfl)
              have y3 := hST.ext.cell_some (hy 3 (.int .i64 yc) rfl)
              have y4 := hST.ext.cell_some (hy 4 (.string yg) rfl)
              have y5 := hST.ext.cell_some (hy 5 (.string yx) rfl)
              have y6 := hST.ext.cell_some (hy 6 (.int .i64 yu) rfl)
              have hbb : b ≠ w2.heap.size + 1 := by omega
              have hS1 := hST
              clear hy hcell hen hsm hST hA he hmb hb
              go_wp2_with fail
              clear d0
              have hfar : ∀ (W : World) (v : Value) (k j : Nat), (W.setCell ⟨w2.heap.size + 1, k, none⟩ v).cell? ⟨b, j, none⟩ = W.cell? ⟨b, j, none⟩ := fun W v k j => World.cell?_setCell_far _ _ _ _ hbb.symm
              obtain ⟨W1, hW1⟩ : ∃ W1 : World, W1 = wr := ⟨_, rfl⟩
              subst hW1
              have HS3 := Lib.hid hS1
              have hCI : ∃ CI, CI = consI all all.length j ⟨ow, nu, ti, ⟨ch, tg, tx, us⟩⟩ := ⟨_, rfl⟩
              obtain ⟨CI, hCI⟩ := hCI
              rw [← hCI] at hS1
              have HCI := Lib.hid hCI
              obtain ⟨ck, co, cn, cp, ⟨qc, qg, qx, qu⟩, ca, ⟨rc, rg, rx, ru⟩, ct⟩ := CI
              have d0 : W1.cell? ⟨w2.heap.size + 1, 0, none⟩ = some (.int .i64 ck) := (cells_at hS1.cons).1 0 _ rfl
              have d9 : W1.cell? ⟨w2.heap.size + 1, 9, none⟩ = some (.int .i64 rc) := (cells_at hS1.cons).1 9 _ rfl
              have d10 : W1.cell? ⟨w2.heap.size + 1, 10, none⟩ = some (.string rg) := (cells_at hS1.cons).1 10 _ rfl
              have d11 : W1.cell? ⟨w2.heap.size + 1, 11, none⟩ = some (.string rx) := (cells_at hS1.cons).1 11 _ rfl
              have d12 : W1.cell? ⟨w2.heap.size + 1, 12, none⟩ = some (.int .i64 ru) := (cells_at hS1.cons).1 12 _ rfl
              have d13 : W1.cell? ⟨w2.heap.size + 1, 13, none⟩ = some (.int .i64 ct) := (cells_at hS1.cons).1 13 _ rfl
              have f0 := (cells_at hS1.cons).2 0
              have f9 := (cells_at hS1.cons).2 9
              have f10 := (cells_at hS1.cons).2 10
              have f11 := (cells_at hS1.cons).2 11
              have f12 := (cells_at hS1.cons).2 12
              have f13 := (cells_at hS1.cons).2 13
              clear hS1 hCI
              go_region_held3 (fun W => W.cell? ⟨b, off + f * 7 + 2, none⟩ = some (.int .i64 yt) ∧ W.cell? ⟨b, off + f * 7 + 3, none⟩ = some (.int .i64 yc) ∧ W.cell? ⟨b, off + f * 7 + 4, none⟩ = some (.string yg) ∧ W.cell? ⟨b, off + f * 7 + 5, none⟩ = some (.string yx) ∧ W.cell? ⟨b, off + f * 7 + 6, none⟩ = some (.int .i64 yu))
                (simp only [World.cell?_drew, hfar, y2, y3, y4, y5, y6, and_self]) (fail)
              go_upto_region 22 with fail
              have hS4 := (HS3.out.setC rfl hsz1 (Nat.lt_succ_self _) 3 ⟨yc, yg, yx, yu⟩ yt).alloc ((Ext.refl _).drew)
              rw [show { consI all all.length j ⟨ow, nu, ti, ⟨ch, tg, tx, us⟩⟩ with kind := 3, new := ⟨yc, yg, yx, yu⟩, newAt := yt } = consOf all j ⟨ow, nu, ti, ⟨ch, tg, tx, us⟩⟩ by rw [consOf_first HEE.out HSM.out, HEN.out, consI_full, if_neg HEE.out]] at hS4
              simp only at hS4
              generalize World.drew (World.setCell _ ⟨w2.heap.size + 1, 13, none⟩ (.int .i64 yt)) = W4 at hS4 ⊢
              clear d0 d9 d10 d11 d12 d13 f0 f9 f10 f11 f12 f13 y2 y3 y4 y5 y6
              have hl2 := HU.out.len
              obtain ⟨cb, cf⟩ := hS4.bools.cell f (by omega)
              have HS4 := Lib.hid hS4
              clear hS4
              go_upto_region 23 with fail
              have HR9 : Hid (RS1 w1 w1.heap.size w2.heap.size (w2.heap.size + 1) ⟨⟨ow, nu, ti, ⟨ch, tg, tx, us⟩⟩, at_, rn⟩ (consOf all j ⟨ow, nu, ti, ⟨ch, tg, tx, us⟩⟩) (S2.set f true) u cl (W4.setCell ⟨w1.heap.size, f, none⟩ (.bool true)) ∧ Marks all (M ++ (metOf all ⟨ow, nu, ti, ⟨ch, tg, tx, us⟩⟩).toList) (S2.set f true)) := Lib.hid ⟨HS4.out.setB rfl hsz1 (Nat.lt_succ_self _) f, HU.out.first HND.out HEE.out hf HSM.out⟩
              clear cb cf
              generalize W4.setCell ⟨w1.heap.size, f, none⟩ (.bool true) = W9 at HR9 ⊢
              generalize S2.set f true = S9 at HR9
              have hR := HR9.out.1
              generalize hcc : consOf all j ⟨ow, nu, ti, ⟨ch, tg, tx, us⟩⟩ = CC at hR
              have HCC := Lib.hid hcc
              obtain ⟨kk, ko, kn, kp, ⟨oc, og, ox, ou⟩, ka, ⟨nc, ng, nx, nw⟩, kt⟩ := CC
              have d0 : W9.cell? ⟨w2.heap.size + 1, 0, none⟩ = some (.int .i64 kk) := (cells_at hR.cons).1 0 _ rfl
              have d1 : W9.cell? ⟨w2.heap.size + 1, 1, none⟩ = some (.string ko) := (cells_at hR.cons).1 1 _ rfl
              have d2 : W9.cell? ⟨w2.heap.size + 1, 2, none⟩ = some (.int .i64 kn) := (cells_at hR.cons).1 2 _ rfl
              have d3 : W9.cell? ⟨w2.heap.size + 1, 3, none⟩ = some (.int .i64 kp) := (cells_at hR.cons).1 3 _ rfl
              have d4 : W9.cell? ⟨w2.heap.size + 1, 4, none⟩ = some (.int .i64 oc) := (cells_at hR.cons).1 4 _ rfl
              have d5 : W9.cell? ⟨w2.heap.size + 1, 5, none⟩ = some (.string og) := (cells_at hR.cons).1 5 _ rfl
              have d6 : W9.cell? ⟨w2.heap.size + 1, 6, none⟩ = some (.string ox) := (cells_at hR.cons).1 6 _ rfl
              have d7 : W9.cell? ⟨w2.heap.size + 1, 7, none⟩ = some (.int .i64 ou) := (cells_at hR.cons).1 7 _ rfl
              have d8 : W9.cell? ⟨w2.heap.size + 1, 8, none⟩ = some (.int .i64 ka) := (cells_at hR.cons).1 8 _ rfl
              have d9 : W9.cell? ⟨w2.heap.size + 1, 9, none⟩ = some (.int .i64 nc) := (cells_at hR.cons).1 9 _ rfl
              have d10 : W9.cell? ⟨w2.heap.size + 1, 10, none⟩ = some (.string ng) := (cells_at hR.cons).1 10 _ rfl
              have d11 : W9.cell? ⟨w2.heap.size + 1, 11, none⟩ = some (.string nx) := (cells_at hR.cons).1 11 _ rfl
              have d12 : W9.cell? ⟨w2.heap.size + 1, 12, none⟩ = some (.int .i64 nw) := (cells_at hR.cons).1 12 _ rfl
              have d13 : W9.cell? ⟨w2.heap.size + 1, 13, none⟩ = some (.int .i64 kt) := (cells_at hR.cons).1 13 _ rfl
              have HRR := Lib.hid hR
              have hrow := hR.row
              have hs9 := hR.bools.lt
              clear hR hcc
              go_wp2_with (at_builtin; (refine wpList_append_own_at _ rfl _ _ 28 rfl (w1.heap.size + 1) 37 i0 _ 14 152 Tryz.underlying28 hi hz0 hz1 hz2 rfl (by decide) u _ _ rfl (owns_ext hrow ((Ext.refl W9).alloc _)) ⟨W9.heap.size, 0, none⟩ 1 1 (encC ⟨kk, ko, kn, kp, ⟨oc, og, ox, ou⟩, ka, ⟨nc, ng, nx, nw⟩, kt⟩) rfl (by rfl) (news_cons W9 _ rfl ⟨kk, ko, kn, kp, ⟨oc, og, ox, ou⟩, ka, ⟨nc, ng, nx, nw⟩, kt⟩ _ rfl) (by simp [encC, Value.oneCell']) (by unfold maxLen; omega) (by omega) (by simp; omega) ?_; intro u' w4 hown' hgrow _ _; have HO := Lib.hid (And.intro hown' hgrow); clear hown' hgrow))
              go_roundg (l.length - (j + 1))
              case measure => omega
              case rel =>
                have hR := HRR.out
                have hx : Ext W9 (W9.alloc _) := (Ext.refl W9).alloc (.cells (encC ⟨kk, ko, kn, kp, ⟨oc, og, ox, ou⟩, ka, ⟨nc, ng, nx, nw⟩, kt⟩).toArray 37)
                have hgr := HO.out.2
                refine ⟨j + 1, u', S9, by go_num, rfl, by omega, (hR.bools.ext hx).kept hgr (fun e => by have := (hR.row.lt _ e.symm).1; omega), ?_, ?_, ext_owns (owns_ext hR.row hx) (hR.ext.trans hx) (by omega) hgr⟩
                · rw [hmT.out]; exact HR9.out.2
                · rw [hcT.out, HCC.out]
                  simpa using HO.out.1
    · obtain rfl : j = l.length := by omega
      have hA' := hA.out
      rw [List.take_length] at hA'
      have HCL : Hid (compareL all l = consL all 0 l ++ (all.filter (fun x => decide (x ∉ metL all l))).map consN) := Lib.hid rfl
      have hcl : (consL all 0 l).length = l.length := consL_len _ _ _
      generalize consL all 0 l = cl at hA' HCL hcl
      generalize metL all l = mt at hA' HCL
      have HA' := Lib.hid hA'
      clear hA hA' hg hlt
      obtain ⟨W4, rfl⟩ : ∃ W4 : World, W4 = wr := ⟨_, rfl⟩
      go_wp2_with (go_at_call 13; (with_reducible refine HLN.out.mono ?_); rintro e w' ⟨rfl, rfl⟩)
      go_loopg [7, 15] all.length (fun g a d wx => ∃ (k : Nat) (u' : Value), d = .int .i64 k ∧ a = u' ∧ k + g = all.length ∧ Aside (BoolsAt wx w1.heap.size S ∧ wx.ownsRow (w1.heap.size + 1) 37 14 u' (cl ++ ((all.take k).filter (fun x => decide (x ∉ mt))).map consN).length ((cl ++ ((all.take k).filter (fun x => decide (x ∉ mt))).map consN).flatMap encC) ∧ Ext w1 wx))
      case atStart =>
        obtain ⟨h1, h2, h3, h4⟩ := HA'.out
        exact ⟨0, _, rfl, rfl, by omega, h1, by simpa using h3, h4⟩
      case round =>
        obtain ⟨k, u', rfl, hu, hg, hA⟩ := hrel
        have hu' := hu.symm
        subst hu'
        clear hu
        by_cases hlt : k < all.length
        · obtain ⟨b, off, rfl, hb, hcell⟩ := HC.out (by omega)
          have hy := hcell k hlt
          have hT := Lib.hid (filter_take (fun x => decide (x ∉ mt)) all k hlt)
          have hSk := HA'.out.2.1.filter k hlt
          have hSl := HA'.out.2.1.1
          obtain ⟨cb, _⟩ := hA.out.1.cell k (by omega)
          have hbb : S[k]'(by omega) = !(decide (all[k] ∉ mt)) := by
            rw [List.getElem?_eq_getElem (by omega)] at hSk
            exact Option.some.inj hSk
          rw [hbb] at cb
          have hle : (cl ++ ((all.take k).filter (fun x => decide (x ∉ mt))).map consN).length ≤ 2000 := by
            have h1 := List.length_filter_le (fun x => decide (x ∉ mt)) (all.take k)
            rw [List.length_take] at h1
            rw [List.length_append, List.length_map]; omega
          generalize all[k] = en at hy hT cb
          clear hbb hSk
          obtain ⟨ow, nu, ti, ⟨ch, tg, tx, us⟩⟩ := en
          have x0 := hy 0 (.string ow) rfl
          have x1 := hy 1 (.int .i64 nu) rfl
          have x2 := hy 2 (.int .i64 ti) rfl
          have x3 := hy 3 (.int .i64 ch) rfl
          have x4 := hy 4 (.string tg) rfl
          have x5 := hy 5 (.string tx) rfl
          have x6 := hy 6 (.int .i64 us) rfl
          simp only [Nat.add_zero] at x0
          clear hcell hy
          cases hbo : decide ((⟨ow, nu, ti, ⟨ch, tg, tx, us⟩⟩ : EntS) ∉ mt) with
          | false =>
            rw [hbo] at cb hT
            simp only [Bool.not_false] at cb
            clear hbo
            go_wp2_with fail
            go_roundg (all.length - (k + 1))
            case measure => omega
            case rel =>
              refine ⟨k + 1, u', by go_num, rfl, by omega, hA.out.1, ?_, hA.out.2.2⟩
              rw [hT.out, if_neg (by simp)]
              exact hA.out.2.1
          | true =>
            rw [hbo] at cb hT
            simp only [Bool.not_true] at cb
            clear hbo
            go_wp2_with fail
            have hE0 := hA.out.2.2
            have hD := hA.out.2.2.drew
            have hsz5 := hA.out.2.2.size
            have hlt5 := hA.out.1.lt
            go_region_held3 (fun W => W.cell? ⟨b, off + k * 7, none⟩ = some (.string ow) ∧ W.cell? ⟨b, off + k * 7 + 1, none⟩ = some (.int .i64 nu) ∧ W.cell? ⟨b, off + k * 7 + 2, none⟩ = some (.int .i64 ti) ∧ W.cell? ⟨b, off + k * 7 + 3, none⟩ = some (.int .i64 ch) ∧ W.cell? ⟨b, off + k * 7 + 4, none⟩ = some (.string tg) ∧ W.cell? ⟨b, off + k * 7 + 5, none⟩ = some (.string tx) ∧ W.cell? ⟨b, off + k * 7 + 6, none⟩ = some (.int .i64 us))
              (exact ⟨Ext.cell_some (w := w1) (by first | with_reducible assumption | with_reducible exact Ext.alloc (by assumption) _ | with_reducible exact Ext.drew (Ext.alloc hE0 _)) x0, Ext.cell_some (w := w1) (by first | with_reducible assumption | with_reducible exact Ext.alloc (by assumption) _ | with_reducible exact Ext.drew (Ext.alloc hE0 _)) x1, Ext.cell_some (w := w1) (by first | with_reducible assumption | with_reducible exact Ext.alloc (by assumption) _ | with_reducible exact Ext.drew (Ext.alloc hE0 _)) x2, Ext.cell_some (w := w1) (by first | with_reducible assumption | with_reducible exact Ext.alloc (by assumption) _ | with_reducible exact Ext.drew (Ext.alloc hE0 _)) x3, Ext.cell_some (w := w1) (by first | with_reducible assumption | with_reducible exact Ext.alloc (by assumption) _ | with_reducible exact Ext.drew (Ext.alloc hE0 _)) x4, Ext.cell_some (w := w1) (by first | with_reducible assumption | with_reducible exact Ext.alloc (by assumption) _ | with_reducible exact Ext.drew (Ext.alloc hE0 _)) x5, Ext.cell_some (w := w1) (by first | with_reducible assumption | with_reducible exact Ext.alloc (by assumption) _ | with_reducible exact Ext.drew (Ext.alloc hE0 _)) x6⟩)
              ((refine step_append_lies _ (by rfl) _ _ _ (by rfl) (w1.heap.size + 1) 37 i0 _ 14 152 Tryz.underlying28 hi hz0 hz1 hz2 rfl (by omega) u' _ _ (by rfl) (World.ownsRow.drew (owns_ext hA.out.2.1 ((Ext.refl wr).alloc _))) ⟨wr.heap.size, 0, none⟩ 1 1 (encC (consN ⟨ow, nu, ti, ⟨ch, tg, tx, us⟩⟩)) (by rfl) (by rfl) (news_cons wr _ rfl (consN ⟨ow, nu, ti, ⟨ch, tg, tx, us⟩⟩) _ rfl) (by simp [encC, Value.oneCell']) (by omega) (by unfold maxLen; omega) (by omega) (by simp; omega) (wr.heap.size + 1) (by simp) ?_; intro g cap w5 hown5 hgrow5 hat5 hlt5'; have hE5 : Ext w1 w5 := ext_owns (World.ownsRow.drew (owns_ext hA.out.2.1 ((Ext.refl wr).alloc (.cells (encC (consN ⟨ow, nu, ti, ⟨ch, tg, tx, us⟩⟩)).toArray 37)))) ((hE0.alloc (.cells (encC (consN ⟨ow, nu, ti, ⟨ch, tg, tx, us⟩⟩)).toArray 37)).drew) (by omega) hgrow5; have HO := Lib.hid (And.intro hown5 (And.intro hgrow5 hE5)); clear hown5 hgrow5))
            go_wp2_with fail
            go_roundg (all.length - (k + 1))
            case measure => omega
            case rel =>
              obtain ⟨h1, h2, h3⟩ := hA.out
              obtain ⟨o1, o2, o3⟩ := HO.out
              have hx : Ext wr (wr.alloc (.cells (encC (consN ⟨ow, nu, ti, ⟨ch, tg, tx, us⟩⟩)).toArray 37)).drew := ((Ext.refl wr).alloc _).drew
              refine ⟨k + 1, _, by go_num, rfl, by omega, (h1.ext hx).kept o2 (fun e => by have := (h2.lt _ e.symm).1; omega), ?_, o3⟩
              rw [hT.out, if_pos (by simp), List.map_append, ← List.append_assoc]
              simpa [Nat.add_assoc, hcl] using o1
        · obtain rfl : k = all.length := by omega
          go_wp2_with fail
          go_ret
          obtain ⟨h1, h2, h3⟩ := hA.out
          rw [List.take_length] at h2
          refine ⟨_, rfl, ?_, HX1.out.trans h3⟩
          rw [HCL.out]
          exact Rd.of_owns (enc := encC) (fun _ => rfl) h2
end Go.Proofs.YtehmgeodpjmfaaaGreatDoor
