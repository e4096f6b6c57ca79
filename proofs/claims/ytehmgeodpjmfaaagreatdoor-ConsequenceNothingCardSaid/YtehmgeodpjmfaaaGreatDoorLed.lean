/- output: Ledger: check, Leave, Len, Get. -/
import Derived.Test.YtehmgeodpjmfaaaGreatDoorAll
namespace Go.Proofs.YtehmgeodpjmfaaaGreatDoor
open Go.RowKit

structure LeftS where
  ent : EntS
  at_ : Int
  rnd : Int
  deriving DecidableEq
def encL (x : LeftS) : List Value := [.string x.ent.own, .int .i64 x.ent.num, .int .i64 x.ent.tick, .int .i64 x.ent.out.chan, .string x.ent.out.target, .string x.ent.out.text, .int .i64 x.ent.out.user, .int .i64 x.at_, .int .i64 x.rnd]
def leftV (x : LeftS) : Value := .agg #[.string x.ent.own, .int .i64 x.ent.num, .int .i64 x.ent.tick, .int .i64 x.ent.out.chan, .string x.ent.out.target, .string x.ent.out.text, .int .i64 x.ent.out.user, .int .i64 x.at_, .int .i64 x.rnd]
def inR (n m : Int) : Bool := decide (0 ≤ n) && decide (n ≤ m)
def ledOld (b : List LeftS) (x : LeftS) : Bool := match b.getLast? with | none => false | some y => decide (x.at_ < y.at_) || decide (x.rnd < y.rnd)
def leftChk (b : List LeftS) (x : LeftS) : Int :=
  if validS x.ent.own.data.toList = false then 12
  else if inR x.ent.num 1048576 = false ∨ inR x.ent.tick 1073741824 = false ∨ inR x.at_ 1073741824 = false ∨ inR x.rnd 1048576 = false then 2
  else if x.ent.out.chk ≠ 0 then x.ent.out.chk
  else if ledOld b x = true then 32
  else if 100000 ≤ b.length then 9
  else 0
theorem within_any (n m : Int) (w : World) : Calls Tryz.prog 69 #[.int .i64 n, .int .i64 m] w fun e w' => e = .returned (.bool (inR n m)) ∧ w = w' := by
  unfold inR
  by_cases h : 0 ≤ n
  · go_enter Tryz.func69, Tryz.ntmps69
    go_wp2
    go_ret
    exact ⟨by simp [h], rfl⟩
  · go_enter Tryz.func69, Tryz.ntmps69
    go_wp2
    go_ret
    exact ⟨by rw [show decide (0 ≤ n) = false from decide_eq_false (by omega)]; rfl, rfl⟩

def SizeO (o : OutS) : Prop := o.target.size ≤ 9223372036854775000 ∧ o.text.size ≤ 9223372036854775000
def SizeL (x : LeftS) : Prop := x.ent.own.size ≤ 9223372036854775000 ∧ SizeO x.ent.out

/-- The call's first half, by its parts: what has gone before lies at v. -/
theorem leftChk_valid (x : LeftS) (_b : List LeftS) (v : Value) (w : World) (hv : validS x.ent.own.data.toList = false) (hs : SizeL x) :
    Calls Tryz.prog 37 #[leftV x, v] w fun e w' => e = .returned (.int .i64 12) ∧ Ext w w' := by
  have HV := Lib.hid (fun W => by have := valid_any x.ent.own hs.1 W; rwa [hv] at this)
  clear hv hs
  obtain ⟨⟨ow, nu, ti, ⟨ch, tg, tx, us⟩⟩, at_, rn⟩ := x
  simp only [leftV] at HV ⊢
  go_enter Tryz.func37, Tryz.ntmps37
  go_wp2_with fail
  (with_reducible refine (HV.out _).mono ?_)
  rintro e w1 ⟨rfl, hx1⟩
  have HX := Lib.hid hx1
  clear hx1
  go_wp2_with fail
  go_ret
  exact ⟨rfl, ((Ext.refl w).alloc _).trans HX.out⟩
set_option maxHeartbeats 4000000 in
set_option maxRecDepth 100000 in
theorem leftChk_r0 (x : LeftS) (b : List LeftS) (v : Value) (w : World) (_hr : Rd w 9 encL v b) (hs : SizeL x) (hv : validS x.ent.own.data.toList = true)  (h0 : inR x.ent.num 1048576 = false) :
    Calls Tryz.prog 37 #[leftV x, v] w fun e w' => e = .returned (.int .i64 2) ∧ Ext w w' := by
  have HV := Lib.hid (fun W => by have := valid_any x.ent.own hs.1 W; rwa [hv] at this)
  have HO := Lib.hid (fun W => chk_any x.ent.out W hs.2.1 hs.2.2)
  clear _hr HO
  have HW := Lib.hid (fun n m W => within_any n m W)
  clear hv hs
  obtain ⟨⟨ow, nu, ti, ⟨ch, tg, tx, us⟩⟩, at_, rn⟩ := x
  simp only [leftV] at HV h0  ⊢
  go_enter Tryz.func37, Tryz.ntmps37
  go_wp2_with fail
  (with_reducible refine (HV.out _).mono ?_)
  rintro e w1 ⟨rfl, hx1⟩
  have hb1 := (hx1.block (b := w.heap.size) (by simp)).trans (heap_new w _)
  have c0 := (cells_at hb1).1 0 _ rfl
  have c1 := (cells_at hb1).1 1 _ rfl
  have c2 := (cells_at hb1).1 2 _ rfl
  have c3 := (cells_at hb1).1 3 _ rfl
  have c4 := (cells_at hb1).1 4 _ rfl
  have c5 := (cells_at hb1).1 5 _ rfl
  have c6 := (cells_at hb1).1 6 _ rfl
  have c7 := (cells_at hb1).1 7 _ rfl
  have c8 := (cells_at hb1).1 8 _ rfl
  simp only [List.getElem_toArray, List.getElem_cons_zero, List.getElem_cons_succ] at c0 c1 c2 c3 c4 c5 c6 c7 c8
  have HX := Lib.hid (And.intro (((Ext.refl w).alloc _).trans hx1) hb1)
  clear hb1 hx1
  go_wp2_with (go_at_call 69; (with_reducible refine (HW.out _ _ _).mono ?_); rintro e w' ⟨rfl, rfl⟩)
  go_ret
  exact ⟨rfl, HX.out.1⟩

set_option maxHeartbeats 4000000 in
set_option maxRecDepth 100000 in
theorem leftChk_r1 (x : LeftS) (b : List LeftS) (v : Value) (w : World) (_hr : Rd w 9 encL v b) (hs : SizeL x) (hv : validS x.ent.own.data.toList = true) (h0 : inR x.ent.num 1048576 = true) (h1 : inR x.ent.tick 1073741824 = false) :
    Calls Tryz.prog 37 #[leftV x, v] w fun e w' => e = .returned (.int .i64 2) ∧ Ext w w' := by
  have HV := Lib.hid (fun W => by have := valid_any x.ent.own hs.1 W; rwa [hv] at this)
  have HO := Lib.hid (fun W => chk_any x.ent.out W hs.2.1 hs.2.2)
  clear _hr HO
  have HW := Lib.hid (fun n m W => within_any n m W)
  clear hv hs
  obtain ⟨⟨ow, nu, ti, ⟨ch, tg, tx, us⟩⟩, at_, rn⟩ := x
  simp only [leftV] at HV h0 h1 ⊢
  go_enter Tryz.func37, Tryz.ntmps37
  go_wp2_with fail
  (with_reducible refine (HV.out _).mono ?_)
  rintro e w1 ⟨rfl, hx1⟩
  have hb1 := (hx1.block (b := w.heap.size) (by simp)).trans (heap_new w _)
  have c0 := (cells_at hb1).1 0 _ rfl
  have c1 := (cells_at hb1).1 1 _ rfl
  have c2 := (cells_at hb1).1 2 _ rfl
  have c3 := (cells_at hb1).1 3 _ rfl
  have c4 := (cells_at hb1).1 4 _ rfl
  have c5 := (cells_at hb1).1 5 _ rfl
  have c6 := (cells_at hb1).1 6 _ rfl
  have c7 := (cells_at hb1).1 7 _ rfl
  have c8 := (cells_at hb1).1 8 _ rfl
  simp only [List.getElem_toArray, List.getElem_cons_zero, List.getElem_cons_succ] at c0 c1 c2 c3 c4 c5 c6 c7 c8
  have HX := Lib.hid (And.intro (((Ext.refl w).alloc _).trans hx1) hb1)
  clear hb1 hx1
  go_wp2_with (go_at_call 69; (with_reducible refine (HW.out _ _ _).mono ?_); rintro e w' ⟨rfl, rfl⟩)
  go_ret
  exact ⟨rfl, HX.out.1⟩

set_option maxHeartbeats 4000000 in
set_option maxRecDepth 100000 in
theorem leftChk_r2 (x : LeftS) (b : List LeftS) (v : Value) (w : World) (_hr : Rd w 9 encL v b) (hs : SizeL x) (hv : validS x.ent.own.data.toList = true) (h0 : inR x.ent.num 1048576 = true) (h1 : inR x.ent.tick 1073741824 = true) (h2 : inR x.at_ 1073741824 = false) :
    Calls Tryz.prog 37 #[leftV x, v] w fun e w' => e = .returned (.int .i64 2) ∧ Ext w w' := by
  have HV := Lib.hid (fun W => by have := valid_any x.ent.own hs.1 W; rwa [hv] at this)
  have HO := Lib.hid (fun W => chk_any x.ent.out W hs.2.1 hs.2.2)
  clear _hr HO
  have HW := Lib.hid (fun n m W => within_any n m W)
  clear hv hs
  obtain ⟨⟨ow, nu, ti, ⟨ch, tg, tx, us⟩⟩, at_, rn⟩ := x
  simp only [leftV] at HV h0 h1 h2 ⊢
  go_enter Tryz.func37, Tryz.ntmps37
  go_wp2_with fail
  (with_reducible refine (HV.out _).mono ?_)
  rintro e w1 ⟨rfl, hx1⟩
  have hb1 := (hx1.block (b := w.heap.size) (by simp)).trans (heap_new w _)
  have c0 := (cells_at hb1).1 0 _ rfl
  have c1 := (cells_at hb1).1 1 _ rfl
  have c2 := (cells_at hb1).1 2 _ rfl
  have c3 := (cells_at hb1).1 3 _ rfl
  have c4 := (cells_at hb1).1 4 _ rfl
  have c5 := (cells_at hb1).1 5 _ rfl
  have c6 := (cells_at hb1).1 6 _ rfl
  have c7 := (cells_at hb1).1 7 _ rfl
  have c8 := (cells_at hb1).1 8 _ rfl
  simp only [List.getElem_toArray, List.getElem_cons_zero, List.getElem_cons_succ] at c0 c1 c2 c3 c4 c5 c6 c7 c8
  have HX := Lib.hid (And.intro (((Ext.refl w).alloc _).trans hx1) hb1)
  clear hb1 hx1
  go_wp2_with (go_at_call 69; (with_reducible refine (HW.out _ _ _).mono ?_); rintro e w' ⟨rfl, rfl⟩)
  go_ret
  exact ⟨rfl, HX.out.1⟩

set_option maxHeartbeats 4000000 in
set_option maxRecDepth 100000 in
theorem leftChk_r3 (x : LeftS) (b : List LeftS) (v : Value) (w : World) (_hr : Rd w 9 encL v b) (hs : SizeL x) (hv : validS x.ent.own.data.toList = true) (h0 : inR x.ent.num 1048576 = true) (h1 : inR x.ent.tick 1073741824 = true) (h2 : inR x.at_ 1073741824 = true) (h3 : inR x.rnd 1048576 = false) :
    Calls Tryz.prog 37 #[leftV x, v] w fun e w' => e = .returned (.int .i64 2) ∧ Ext w w' := by
  have HV := Lib.hid (fun W => by have := valid_any x.ent.own hs.1 W; rwa [hv] at this)
  have HO := Lib.hid (fun W => chk_any x.ent.out W hs.2.1 hs.2.2)
  clear _hr HO
  have HW := Lib.hid (fun n m W => within_any n m W)
  clear hv hs
  obtain ⟨⟨ow, nu, ti, ⟨ch, tg, tx, us⟩⟩, at_, rn⟩ := x
  simp only [leftV] at HV h0 h1 h2 h3 ⊢
  go_enter Tryz.func37, Tryz.ntmps37
  go_wp2_with fail
  (with_reducible refine (HV.out _).mono ?_)
  rintro e w1 ⟨rfl, hx1⟩
  have hb1 := (hx1.block (b := w.heap.size) (by simp)).trans (heap_new w _)
  have c0 := (cells_at hb1).1 0 _ rfl
  have c1 := (cells_at hb1).1 1 _ rfl
  have c2 := (cells_at hb1).1 2 _ rfl
  have c3 := (cells_at hb1).1 3 _ rfl
  have c4 := (cells_at hb1).1 4 _ rfl
  have c5 := (cells_at hb1).1 5 _ rfl
  have c6 := (cells_at hb1).1 6 _ rfl
  have c7 := (cells_at hb1).1 7 _ rfl
  have c8 := (cells_at hb1).1 8 _ rfl
  simp only [List.getElem_toArray, List.getElem_cons_zero, List.getElem_cons_succ] at c0 c1 c2 c3 c4 c5 c6 c7 c8
  have HX := Lib.hid (And.intro (((Ext.refl w).alloc _).trans hx1) hb1)
  clear hb1 hx1
  go_wp2_with (go_at_call 69; (with_reducible refine (HW.out _ _ _).mono ?_); rintro e w' ⟨rfl, rfl⟩)
  go_ret
  exact ⟨rfl, HX.out.1⟩

set_option maxHeartbeats 4000000 in
set_option maxRecDepth 100000 in
theorem leftChk_o (x : LeftS) (b : List LeftS) (v : Value) (w : World) (_hr : Rd w 9 encL v b) (hs : SizeL x) (hv : validS x.ent.own.data.toList = true) (h0 : inR x.ent.num 1048576 = true) (h1 : inR x.ent.tick 1073741824 = true) (h2 : inR x.at_ 1073741824 = true) (h3 : inR x.rnd 1048576 = true) (ho : x.ent.out.chk ≠ 0) :
    Calls Tryz.prog 37 #[leftV x, v] w fun e w' => e = .returned (.int .i64 x.ent.out.chk) ∧ Ext w w' := by
  have HV := Lib.hid (fun W => by have := valid_any x.ent.own hs.1 W; rwa [hv] at this)
  have HO := Lib.hid (fun W => chk_any x.ent.out W hs.2.1 hs.2.2)
  have ho' : (x.ent.out.chk != 0) = true := by simpa using ho
  clear _hr ho
  generalize x.ent.out.chk = k at HO ho' ⊢
  have HW := Lib.hid (fun n m W => within_any n m W)
  clear hv hs
  obtain ⟨⟨ow, nu, ti, ⟨ch, tg, tx, us⟩⟩, at_, rn⟩ := x
  simp only [leftV, outV] at HV HO h0 h1 h2 h3 ⊢
  go_enter Tryz.func37, Tryz.ntmps37
  go_wp2_with fail
  (with_reducible refine (HV.out _).mono ?_)
  rintro e w1 ⟨rfl, hx1⟩
  have hb1 := (hx1.block (b := w.heap.size) (by simp)).trans (heap_new w _)
  have c0 := (cells_at hb1).1 0 _ rfl
  have c1 := (cells_at hb1).1 1 _ rfl
  have c2 := (cells_at hb1).1 2 _ rfl
  have c3 := (cells_at hb1).1 3 _ rfl
  have c4 := (cells_at hb1).1 4 _ rfl
  have c5 := (cells_at hb1).1 5 _ rfl
  have c6 := (cells_at hb1).1 6 _ rfl
  have c7 := (cells_at hb1).1 7 _ rfl
  have c8 := (cells_at hb1).1 8 _ rfl
  simp only [List.getElem_toArray, List.getElem_cons_zero, List.getElem_cons_succ] at c0 c1 c2 c3 c4 c5 c6 c7 c8
  have HX := Lib.hid (And.intro (((Ext.refl w).alloc _).trans hx1) hb1)
  clear hb1 hx1
  go_wp2_with (go_at_call 69; (with_reducible refine (HW.out _ _ _).mono ?_); rintro e w' ⟨rfl, rfl⟩)
  (with_reducible refine (HO.out _).mono ?_)
  rintro e w2 ⟨rfl, hx2⟩
  have HX2 := Lib.hid (HX.out.1.trans hx2)
  clear hx2 c0 c1 c2 c3 c4 c5 c6 c7 c8
  go_wp2_with fail
  go_ret
  exact ⟨rfl, HX2.out⟩

set_option maxHeartbeats 4000000 in
set_option maxRecDepth 100000 in
theorem leftChk_e (x : LeftS) (b : List LeftS) (v : Value) (w : World) (hr : Rd w 9 encL v b) (hs : SizeL x) (hv : validS x.ent.own.data.toList = true) (h0 : inR x.ent.num 1048576 = true) (h1 : inR x.ent.tick 1073741824 = true) (h2 : inR x.at_ 1073741824 = true) (h3 : inR x.rnd 1048576 = true) (ho : x.ent.out.chk = 0) (hb : b = []) :
    Calls Tryz.prog 37 #[leftV x, v] w fun e w' => e = .returned (.int .i64 0) ∧ Ext w w' := by
  have HV := Lib.hid (fun W => by have := valid_any x.ent.own hs.1 W; rwa [hv] at this)
  have HO := Lib.hid (fun W => chk_any x.ent.out W hs.2.1 hs.2.2)
  rw [ho] at HO
  clear ho
  subst hb
  obtain ⟨_, A, c, rfl, _⟩ := hr
  have HW := Lib.hid (fun n m W => within_any n m W)
  clear hv hs
  obtain ⟨⟨ow, nu, ti, ⟨ch, tg, tx, us⟩⟩, at_, rn⟩ := x
  simp only [leftV, outV] at HV HO h0 h1 h2 h3 ⊢
  go_enter Tryz.func37, Tryz.ntmps37
  go_wp2_with fail
  (with_reducible refine (HV.out _).mono ?_)
  rintro e w1 ⟨rfl, hx1⟩
  have hb1 := (hx1.block (b := w.heap.size) (by simp)).trans (heap_new w _)
  have c0 := (cells_at hb1).1 0 _ rfl
  have c1 := (cells_at hb1).1 1 _ rfl
  have c2 := (cells_at hb1).1 2 _ rfl
  have c3 := (cells_at hb1).1 3 _ rfl
  have c4 := (cells_at hb1).1 4 _ rfl
  have c5 := (cells_at hb1).1 5 _ rfl
  have c6 := (cells_at hb1).1 6 _ rfl
  have c7 := (cells_at hb1).1 7 _ rfl
  have c8 := (cells_at hb1).1 8 _ rfl
  simp only [List.getElem_toArray, List.getElem_cons_zero, List.getElem_cons_succ] at c0 c1 c2 c3 c4 c5 c6 c7 c8
  have HX := Lib.hid (And.intro (((Ext.refl w).alloc _).trans hx1) hb1)
  clear hb1 hx1
  go_wp2_with (go_at_call 69; (with_reducible refine (HW.out _ _ _).mono ?_); rintro e w' ⟨rfl, rfl⟩)
  (with_reducible refine (HO.out _).mono ?_)
  rintro e w2 ⟨rfl, hx2⟩
  have hb2 := (hx2.block (Array.getElem?_eq_some_iff.1 HX.out.2).1).trans HX.out.2
  have d7 := (cells_at hb2).1 7 _ rfl
  have d8 := (cells_at hb2).1 8 _ rfl
  simp only [List.getElem_toArray, List.getElem_cons_zero, List.getElem_cons_succ] at d7 d8
  have HX2 := Lib.hid (HX.out.1.trans hx2)
  clear hx2 hb2 c0 c1 c2 c3 c4 c5 c6 c7 c8
  go_wp2_with fail
  go_quiet (fail)
  go_wp2_with fail
  go_ret
  exact ⟨rfl, (HX2.out).drewN _⟩

set_option maxHeartbeats 4000000 in
set_option maxRecDepth 100000 in
theorem leftChk_a (x : LeftS) (b : List LeftS) (v : Value) (w : World) (hr : Rd w 9 encL v b) (hs : SizeL x) (hv : validS x.ent.own.data.toList = true) (h0 : inR x.ent.num 1048576 = true) (h1 : inR x.ent.tick 1073741824 = true) (h2 : inR x.at_ 1073741824 = true) (h3 : inR x.rnd 1048576 = true) (ho : x.ent.out.chk = 0) (y : LeftS) (hb : 0 < b.length) (hlast : b.getLast? = some y) (h5 : x.at_ < y.at_) :
    Calls Tryz.prog 37 #[leftV x, v] w fun e w' => e = .returned (.int .i64 32) ∧ Ext w w' := by
  have HV := Lib.hid (fun W => by have := valid_any x.ent.own hs.1 W; rwa [hv] at this)
  have HO := Lib.hid (fun W => chk_any x.ent.out W hs.2.1 hs.2.2)
  rw [ho] at HO
  clear ho
  obtain ⟨m, hm⟩ : ∃ m, b.length = m + 1 := ⟨b.length - 1, by omega⟩
  obtain ⟨hl, A, c, rfl, hc⟩ := hr
  obtain ⟨g, off, rfl, hg, hcs⟩ := hc (by omega)
  have hy := hcs m (by omega)
  have hym : b[m]'(by omega) = y := by
    have := List.getLast?_eq_getElem? (l := b)
    rw [hm] at this
    simp only [Nat.add_sub_cancel] at this
    rw [List.getElem?_eq_getElem (by omega), hlast] at this
    exact (Option.some.inj this).symm
  rw [hym] at hy
  have y7 := hy 7 (.int .i64 y.at_) rfl
  have y8 := hy 8 (.int .i64 y.rnd) rfl
  have hm0 : (m : Int) + 1 ≤ 9223372036854775807 := by omega
  rw [hm]
  clear hy hcs hc hym hlast hl
  generalize y.at_ = yt at *
  generalize y.rnd = yr at *
  have HW := Lib.hid (fun n m W => within_any n m W)
  clear hv hs
  obtain ⟨⟨ow, nu, ti, ⟨ch, tg, tx, us⟩⟩, at_, rn⟩ := x
  simp only [leftV, outV] at HV HO h0 h1 h2 h3 h5 ⊢
  go_enter Tryz.func37, Tryz.ntmps37
  go_wp2_with fail
  (with_reducible refine (HV.out _).mono ?_)
  rintro e w1 ⟨rfl, hx1⟩
  have hb1 := (hx1.block (b := w.heap.size) (by simp)).trans (heap_new w _)
  have c0 := (cells_at hb1).1 0 _ rfl
  have c1 := (cells_at hb1).1 1 _ rfl
  have c2 := (cells_at hb1).1 2 _ rfl
  have c3 := (cells_at hb1).1 3 _ rfl
  have c4 := (cells_at hb1).1 4 _ rfl
  have c5 := (cells_at hb1).1 5 _ rfl
  have c6 := (cells_at hb1).1 6 _ rfl
  have c7 := (cells_at hb1).1 7 _ rfl
  have c8 := (cells_at hb1).1 8 _ rfl
  simp only [List.getElem_toArray, List.getElem_cons_zero, List.getElem_cons_succ] at c0 c1 c2 c3 c4 c5 c6 c7 c8
  have HX := Lib.hid (And.intro (((Ext.refl w).alloc _).trans hx1) hb1)
  clear hb1 hx1
  go_wp2_with (go_at_call 69; (with_reducible refine (HW.out _ _ _).mono ?_); rintro e w' ⟨rfl, rfl⟩)
  (with_reducible refine (HO.out _).mono ?_)
  rintro e w2 ⟨rfl, hx2⟩
  have hb2 := (hx2.block (Array.getElem?_eq_some_iff.1 HX.out.2).1).trans HX.out.2
  have d7 := (cells_at hb2).1 7 _ rfl
  have d8 := (cells_at hb2).1 8 _ rfl
  simp only [List.getElem_toArray, List.getElem_cons_zero, List.getElem_cons_succ] at d7 d8
  have HX2 := Lib.hid (HX.out.1.trans hx2)
  have z7 := (HX.out.1.trans hx2).cell_some y7
  have z8 := (HX.out.1.trans hx2).cell_some y8
  clear y7 y8 hx2 hb2 c0 c1 c2 c3 c4 c5 c6 c7 c8
  go_wp2_with fail
  go_quiet (fail)
  go_wp2_with fail
  go_ret
  exact ⟨rfl, (HX2.out).drewN _⟩

set_option maxHeartbeats 4000000 in
set_option maxRecDepth 100000 in
theorem leftChk_b (x : LeftS) (b : List LeftS) (v : Value) (w : World) (hr : Rd w 9 encL v b) (hs : SizeL x) (hv : validS x.ent.own.data.toList = true) (h0 : inR x.ent.num 1048576 = true) (h1 : inR x.ent.tick 1073741824 = true) (h2 : inR x.at_ 1073741824 = true) (h3 : inR x.rnd 1048576 = true) (ho : x.ent.out.chk = 0) (y : LeftS) (hb : 0 < b.length) (hlast : b.getLast? = some y) (h5 : ¬ x.at_ < y.at_) (h6 : x.rnd < y.rnd) :
    Calls Tryz.prog 37 #[leftV x, v] w fun e w' => e = .returned (.int .i64 32) ∧ Ext w w' := by
  have HV := Lib.hid (fun W => by have := valid_any x.ent.own hs.1 W; rwa [hv] at this)
  have HO := Lib.hid (fun W => chk_any x.ent.out W hs.2.1 hs.2.2)
  rw [ho] at HO
  clear ho
  obtain ⟨m, hm⟩ : ∃ m, b.length = m + 1 := ⟨b.length - 1, by omega⟩
  obtain ⟨hl, A, c, rfl, hc⟩ := hr
  obtain ⟨g, off, rfl, hg, hcs⟩ := hc (by omega)
  have hy := hcs m (by omega)
  have hym : b[m]'(by omega) = y := by
    have := List.getLast?_eq_getElem? (l := b)
    rw [hm] at this
    simp only [Nat.add_sub_cancel] at this
    rw [List.getElem?_eq_getElem (by omega), hlast] at this
    exact (Option.some.inj this).symm
  rw [hym] at hy
  have y7 := hy 7 (.int .i64 y.at_) rfl
  have y8 := hy 8 (.int .i64 y.rnd) rfl
  have hm0 : (m : Int) + 1 ≤ 9223372036854775807 := by omega
  rw [hm]
  clear hy hcs hc hym hlast hl
  generalize y.at_ = yt at *
  generalize y.rnd = yr at *
  have HW := Lib.hid (fun n m W => within_any n m W)
  clear hv hs
  obtain ⟨⟨ow, nu, ti, ⟨ch, tg, tx, us⟩⟩, at_, rn⟩ := x
  simp only [leftV, outV] at HV HO h0 h1 h2 h3 h5 ⊢
  go_enter Tryz.func37, Tryz.ntmps37
  go_wp2_with fail
  (with_reducible refine (HV.out _).mono ?_)
  rintro e w1 ⟨rfl, hx1⟩
  have hb1 := (hx1.block (b := w.heap.size) (by simp)).trans (heap_new w _)
  have c0 := (cells_at hb1).1 0 _ rfl
  have c1 := (cells_at hb1).1 1 _ rfl
  have c2 := (cells_at hb1).1 2 _ rfl
  have c3 := (cells_at hb1).1 3 _ rfl
  have c4 := (cells_at hb1).1 4 _ rfl
  have c5 := (cells_at hb1).1 5 _ rfl
  have c6 := (cells_at hb1).1 6 _ rfl
  have c7 := (cells_at hb1).1 7 _ rfl
  have c8 := (cells_at hb1).1 8 _ rfl
  simp only [List.getElem_toArray, List.getElem_cons_zero, List.getElem_cons_succ] at c0 c1 c2 c3 c4 c5 c6 c7 c8
  have HX := Lib.hid (And.intro (((Ext.refl w).alloc _).trans hx1) hb1)
  clear hb1 hx1
  go_wp2_with (go_at_call 69; (with_reducible refine (HW.out _ _ _).mono ?_); rintro e w' ⟨rfl, rfl⟩)
  (with_reducible refine (HO.out _).mono ?_)
  rintro e w2 ⟨rfl, hx2⟩
  have hb2 := (hx2.block (Array.getElem?_eq_some_iff.1 HX.out.2).1).trans HX.out.2
  have d7 := (cells_at hb2).1 7 _ rfl
  have d8 := (cells_at hb2).1 8 _ rfl
  simp only [List.getElem_toArray, List.getElem_cons_zero, List.getElem_cons_succ] at d7 d8
  have HX2 := Lib.hid (HX.out.1.trans hx2)
  have z7 := (HX.out.1.trans hx2).cell_some y7
  have z8 := (HX.out.1.trans hx2).cell_some y8
  clear y7 y8 hx2 hb2 c0 c1 c2 c3 c4 c5 c6 c7 c8
  have h5' : decide (at_ < yt) = false := decide_eq_false (by omega)
  go_wp2_with fail
  go_quiet (fail)
  go_wp2_with fail
  go_ret
  exact ⟨rfl, (HX2.out).drewN _⟩

set_option maxHeartbeats 4000000 in
set_option maxRecDepth 100000 in
theorem leftChk_c (x : LeftS) (b : List LeftS) (v : Value) (w : World) (hr : Rd w 9 encL v b) (hs : SizeL x) (hv : validS x.ent.own.data.toList = true) (h0 : inR x.ent.num 1048576 = true) (h1 : inR x.ent.tick 1073741824 = true) (h2 : inR x.at_ 1073741824 = true) (h3 : inR x.rnd 1048576 = true) (ho : x.ent.out.chk = 0) (y : LeftS) (hb : 0 < b.length) (hlast : b.getLast? = some y) (h5 : ¬ x.at_ < y.at_) (h6 : ¬ x.rnd < y.rnd) (h7 : 100000 ≤ b.length) :
    Calls Tryz.prog 37 #[leftV x, v] w fun e w' => e = .returned (.int .i64 9) ∧ Ext w w' := by
  have HV := Lib.hid (fun W => by have := valid_any x.ent.own hs.1 W; rwa [hv] at this)
  have HO := Lib.hid (fun W => chk_any x.ent.out W hs.2.1 hs.2.2)
  rw [ho] at HO
  clear ho
  obtain ⟨m, hm⟩ : ∃ m, b.length = m + 1 := ⟨b.length - 1, by omega⟩
  obtain ⟨hl, A, c, rfl, hc⟩ := hr
  obtain ⟨g, off, rfl, hg, hcs⟩ := hc (by omega)
  have hy := hcs m (by omega)
  have hym : b[m]'(by omega) = y := by
    have := List.getLast?_eq_getElem? (l := b)
    rw [hm] at this
    simp only [Nat.add_sub_cancel] at this
    rw [List.getElem?_eq_getElem (by omega), hlast] at this
    exact (Option.some.inj this).symm
  rw [hym] at hy
  have y7 := hy 7 (.int .i64 y.at_) rfl
  have y8 := hy 8 (.int .i64 y.rnd) rfl
  have hm0 : (m : Int) + 1 ≤ 9223372036854775807 := by omega
  have h7' : (100000 : Int) ≤ (m : Int) + 1 := by omega
  clear h7
  rw [hm]
  clear hy hcs hc hym hlast hl
  generalize y.at_ = yt at *
  generalize y.rnd = yr at *
  have HW := Lib.hid (fun n m W => within_any n m W)
  clear hv hs
  obtain ⟨⟨ow, nu, ti, ⟨ch, tg, tx, us⟩⟩, at_, rn⟩ := x
  simp only [leftV, outV] at HV HO h0 h1 h2 h3 h5 ⊢
  go_enter Tryz.func37, Tryz.ntmps37
  go_wp2_with fail
  (with_reducible refine (HV.out _).mono ?_)
  rintro e w1 ⟨rfl, hx1⟩
  have hb1 := (hx1.block (b := w.heap.size) (by simp)).trans (heap_new w _)
  have c0 := (cells_at hb1).1 0 _ rfl
  have c1 := (cells_at hb1).1 1 _ rfl
  have c2 := (cells_at hb1).1 2 _ rfl
  have c3 := (cells_at hb1).1 3 _ rfl
  have c4 := (cells_at hb1).1 4 _ rfl
  have c5 := (cells_at hb1).1 5 _ rfl
  have c6 := (cells_at hb1).1 6 _ rfl
  have c7 := (cells_at hb1).1 7 _ rfl
  have c8 := (cells_at hb1).1 8 _ rfl
  simp only [List.getElem_toArray, List.getElem_cons_zero, List.getElem_cons_succ] at c0 c1 c2 c3 c4 c5 c6 c7 c8
  have HX := Lib.hid (And.intro (((Ext.refl w).alloc _).trans hx1) hb1)
  clear hb1 hx1
  go_wp2_with (go_at_call 69; (with_reducible refine (HW.out _ _ _).mono ?_); rintro e w' ⟨rfl, rfl⟩)
  (with_reducible refine (HO.out _).mono ?_)
  rintro e w2 ⟨rfl, hx2⟩
  have hb2 := (hx2.block (Array.getElem?_eq_some_iff.1 HX.out.2).1).trans HX.out.2
  have d7 := (cells_at hb2).1 7 _ rfl
  have d8 := (cells_at hb2).1 8 _ rfl
  simp only [List.getElem_toArray, List.getElem_cons_zero, List.getElem_cons_succ] at d7 d8
  have HX2 := Lib.hid (HX.out.1.trans hx2)
  have z7 := (HX.out.1.trans hx2).cell_some y7
  have z8 := (HX.out.1.trans hx2).cell_some y8
  clear y7 y8 hx2 hb2 c0 c1 c2 c3 c4 c5 c6 c7 c8
  have h5' : decide (at_ < yt) = false := decide_eq_false (by omega)
  have h6' : decide (rn < yr) = false := decide_eq_false (by omega)
  go_wp2_with fail
  go_quiet (fail)
  go_wp2_with fail
  go_ret
  exact ⟨rfl, (HX2.out).drewN _⟩

set_option maxHeartbeats 4000000 in
set_option maxRecDepth 100000 in
theorem leftChk_d (x : LeftS) (b : List LeftS) (v : Value) (w : World) (hr : Rd w 9 encL v b) (hs : SizeL x) (hv : validS x.ent.own.data.toList = true) (h0 : inR x.ent.num 1048576 = true) (h1 : inR x.ent.tick 1073741824 = true) (h2 : inR x.at_ 1073741824 = true) (h3 : inR x.rnd 1048576 = true) (ho : x.ent.out.chk = 0) (y : LeftS) (hb : 0 < b.length) (hlast : b.getLast? = some y) (h5 : ¬ x.at_ < y.at_) (h6 : ¬ x.rnd < y.rnd) (h7 : ¬ 100000 ≤ b.length) :
    Calls Tryz.prog 37 #[leftV x, v] w fun e w' => e = .returned (.int .i64 0) ∧ Ext w w' := by
  have HV := Lib.hid (fun W => by have := valid_any x.ent.own hs.1 W; rwa [hv] at this)
  have HO := Lib.hid (fun W => chk_any x.ent.out W hs.2.1 hs.2.2)
  rw [ho] at HO
  clear ho
  obtain ⟨m, hm⟩ : ∃ m, b.length = m + 1 := ⟨b.length - 1, by omega⟩
  obtain ⟨hl, A, c, rfl, hc⟩ := hr
  obtain ⟨g, off, rfl, hg, hcs⟩ := hc (by omega)
  have hy := hcs m (by omega)
  have hym : b[m]'(by omega) = y := by
    have := List.getLast?_eq_getElem? (l := b)
    rw [hm] at this
    simp only [Nat.add_sub_cancel] at this
    rw [List.getElem?_eq_getElem (by omega), hlast] at this
    exact (Option.some.inj this).symm
  rw [hym] at hy
  have y7 := hy 7 (.int .i64 y.at_) rfl
  have y8 := hy 8 (.int .i64 y.rnd) rfl
  have hm0 : (m : Int) + 1 ≤ 9223372036854775807 := by omega
  have h7' : decide ((100000 : Int) ≤ (m : Int) + 1) = false := decide_eq_false (by omega)
  clear h7
  rw [hm]
  clear hy hcs hc hym hlast hl
  generalize y.at_ = yt at *
  generalize y.rnd = yr at *
  have HW := Lib.hid (fun n m W => within_any n m W)
  clear hv hs
  obtain ⟨⟨ow, nu, ti, ⟨ch, tg, tx, us⟩⟩, at_, rn⟩ := x
  simp only [leftV, outV] at HV HO h0 h1 h2 h3 h5 ⊢
  go_enter Tryz.func37, Tryz.ntmps37
  go_wp2_with fail
  (with_reducible refine (HV.out _).mono ?_)
  rintro e w1 ⟨rfl, hx1⟩
  have hb1 := (hx1.block (b := w.heap.size) (by simp)).trans (heap_new w _)
  have c0 := (cells_at hb1).1 0 _ rfl
  have c1 := (cells_at hb1).1 1 _ rfl
  have c2 := (cells_at hb1).1 2 _ rfl
  have c3 := (cells_at hb1).1 3 _ rfl
  have c4 := (cells_at hb1).1 4 _ rfl
  have c5 := (cells_at hb1).1 5 _ rfl
  have c6 := (cells_at hb1).1 6 _ rfl
  have c7 := (cells_at hb1).1 7 _ rfl
  have c8 := (cells_at hb1).1 8 _ rfl
  simp only [List.getElem_toArray, List.getElem_cons_zero, List.getElem_cons_succ] at c0 c1 c2 c3 c4 c5 c6 c7 c8
  have HX := Lib.hid (And.intro (((Ext.refl w).alloc _).trans hx1) hb1)
  clear hb1 hx1
  go_wp2_with (go_at_call 69; (with_reducible refine (HW.out _ _ _).mono ?_); rintro e w' ⟨rfl, rfl⟩)
  (with_reducible refine (HO.out _).mono ?_)
  rintro e w2 ⟨rfl, hx2⟩
  have hb2 := (hx2.block (Array.getElem?_eq_some_iff.1 HX.out.2).1).trans HX.out.2
  have d7 := (cells_at hb2).1 7 _ rfl
  have d8 := (cells_at hb2).1 8 _ rfl
  simp only [List.getElem_toArray, List.getElem_cons_zero, List.getElem_cons_succ] at d7 d8
  have HX2 := Lib.hid (HX.out.1.trans hx2)
  have z7 := (HX.out.1.trans hx2).cell_some y7
  have z8 := (HX.out.1.trans hx2).cell_some y8
  clear y7 y8 hx2 hb2 c0 c1 c2 c3 c4 c5 c6 c7 c8
  have h5' : decide (at_ < yt) = false := decide_eq_false (by omega)
  have h6' : decide (rn < yr) = false := decide_eq_false (by omega)
  go_wp2_with fail
  go_quiet (fail)
  go_wp2_with fail
  go_ret
  exact ⟨rfl, (HX2.out).drewN _⟩


-- END CHECK
end Go.Proofs.YtehmgeodpjmfaaaGreatDoor
