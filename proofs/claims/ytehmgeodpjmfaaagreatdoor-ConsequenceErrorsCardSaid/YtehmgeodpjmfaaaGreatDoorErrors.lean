/- law 50: ConsequenceErrors, the walk. -/
import Derived.Test.YtehmgeodpjmfaaaGreatDoorKnown2
import Derived.Test.YtehmgeodpjmfaaaGreatDoorDiff
import Derived.Test.YtehmgeodpjmfaaaGreatDoorCount
namespace Go.Proofs.YtehmgeodpjmfaaaGreatDoor
open Go.RowKit

set_option maxRecDepth 100000 in
theorem cmp_nil_l (q : Option Addr) (w : World) :
    Calls Tryz.prog 12 #[.pointer none, .pointer q] w fun e w' => e = .returned (.tuple #[.slice none 0 0, .int .i64 1]) ∧ Ext w w' := by
  go_enter Tryz.func12, Tryz.ntmps12
  go_wp2_with fail
  go_ret2
  exact ⟨rfl, Ext.refl w⟩
set_option maxRecDepth 100000 in
theorem cmp_nil_s (a : Addr) (w : World) :
    Calls Tryz.prog 12 #[.pointer (some a), .pointer none] w fun e w' => e = .returned (.tuple #[.slice none 0 0, .int .i64 1]) ∧ Ext w w' := by
  go_enter Tryz.func12, Tryz.ntmps12
  go_wp2_with fail
  go_ret2
  exact ⟨rfl, Ext.refl w⟩
theorem Rd.shape {α : Type} {w : World} {sz : Nat} {enc : α → List Value} {v : Value} {l : List α} (h : Rd w sz enc v l) : ∃ A c, v = .slice A l.length c := by
  obtain ⟨_, A, c, hv, _⟩ := h
  exact ⟨A, c, hv⟩
/-- An empty ledger: nothing but new outputs. -/
theorem cmpL_empty (t : BT) : (compareL (allL t) []).length = (allL t).length := by
  have h : (allL t).filter (fun x => decide (x ∉ metL (allL t) [])) = allL t := List.filter_eq_self.2 (fun x _ => by simp [metL])
  unfold compareL
  rw [List.length_append, List.length_map, h, consL_len, List.length_nil, Nat.zero_add]
theorem cmp_first (now : List ItemS) (q : Option Addr) (p : Nat) (v : Value) (w : World) (hS : IsS w q (stB (now.take 20))) (hL : LAt w p [] v) :
    Calls Tryz.prog 12 #[.pointer (some ⟨p, 0, none⟩), .pointer q] w fun e w' => ∃ A c, e = .returned (.tuple #[.slice A (allL (stB (now.take 20))).length c, .int .i64 0]) ∧ Ext w w' := by
  have h20 : (now.take 20).length ≤ 20 := List.length_take_le _ _
  refine (compare_any _ q p [] v w hS (stB_ok _) (stB_val _) (by have := (stB_size (now.take 20)).1; omega) hL (by simp) (allL_ok _) (fun x hx => by cases hx)).mono ?_
  rintro e w' ⟨u, rfl, hr, hx⟩
  obtain ⟨A, c, rfl⟩ := hr.shape
  exact ⟨A, c, by rw [cmpL_empty], hx⟩
theorem all_built (now : List ItemS) (q : Option Addr) (w : World) (hS : IsS w q (stB (now.take 20))) :
    Calls Tryz.prog 14 #[.pointer q] w fun e w' => ∃ A c, e = .returned (.slice A (allL (stB (now.take 20))).length c) ∧ Ext w w' := by
  have h20 : (now.take 20).length ≤ 20 := List.length_take_le _ _
  refine (all_any _ q w hS (stB_ok _) (stB_val _) (by have := (stB_size (now.take 20)).1; omega)).mono ?_
  rintro e w' ⟨u, rfl, hr, hx⟩
  obtain ⟨A, c, rfl⟩ := hr.shape
  exact ⟨A, c, rfl, hx⟩
theorem cmp_none (q : Option Addr) (p : Nat) (v : Value) (w : World) (hS : IsS w q .nil) (hL : LAt w p [] v) :
    Calls Tryz.prog 12 #[.pointer (some ⟨p, 0, none⟩), .pointer q] w fun e w' => ∃ A c, e = .returned (.tuple #[.slice A 0 c, .int .i64 0]) ∧ Ext w w' := by
  have h := cmp_first [] q p v w hS hL
  rwa [show (allL (stB (([] : List ItemS).take 20))).length = 0 from rfl] at h
theorem diff_none (w : World) : Calls Tryz.prog 20 #[.slice none 0 0] w fun e w' => ∃ A c, e = .returned (.slice A 0 c) ∧ Ext w w' := by
  refine (diff_any _ [] w (Rd.nil _ _ _) (by simp)).mono ?_
  rintro e w' ⟨u, rfl, hr, hx⟩
  obtain ⟨A, c, rfl⟩ := hr.shape
  exact ⟨A, c, rfl, hx⟩
theorem count_none (w : World) : Calls Tryz.prog 19 #[.slice none 0 0] w fun e w' => e = .returned (.agg #[.int .i64 0, .int .i64 0, .int .i64 0, .int .i64 0, .int .i64 0]) ∧ Ext w w' :=
  count_any _ [] w (Rd.nil _ _ _) (by simp)
theorem zero5 (w : World) : (Op.equalIn 10000 53 (.agg #[.int .i64 0, .int .i64 0, .int .i64 0, .int .i64 0, .int .i64 0]) (.agg #[.int .i64 0, .int .i64 0, .int .i64 0, .int .i64 0, .int .i64 0])).run Tryz.prog w = .ok true w := by kernel_rfl

set_option maxHeartbeats 8000000 in
set_option maxRecDepth 100000 in
theorem errors_any (nv lv : Value) (now left : List ItemS) (w : World) (hn : Rd w 5 encI5 nv now) (hl : Rd w 5 encI5 lv left) (okn : ∀ x ∈ now, ItemOk x) (okl : ∀ x ∈ left, ItemOk x) :
    Calls Tryz.prog 8 #[nv, lv] w fun e w' => e = .returned (.bool true) ∧ Ext w w' := by
  have HB := Lib.hid (build_any nv lv now left w hn hl okn okl)
  clear hn hl okn okl
  have h5 := zero5
  go_enter Tryz.func8, Tryz.ntmps8
  go_wp2_with fail
  (with_reducible refine HB.out.mono ?_)
  rintro e w1 ⟨q, p, v, rfl, hS1, hL1, _, hx1⟩
  have Z1 := Lib.hid (And.intro hS1 hx1)
  clear hS1 hL1 hx1 HB
  go_wp2_with fail
  (with_reducible refine (cmp_nil_l _ _).mono ?_)
  rintro e w2 ⟨rfl, hx2⟩
  have Z2 := Lib.hid (And.intro (IsS.ext hx2 Z1.out.1) (Z1.out.2.trans hx2))
  clear hx2 Z1
  go_wp2_with fail
  (with_reducible refine (cmp_nil_s _ _).mono ?_)
  rintro e w3 ⟨rfl, hx3⟩
  have Z3 := Lib.hid (And.intro (IsS.ext hx3 Z2.out.1) (Z2.out.2.trans hx3))
  clear hx3 Z2
  go_wp2_with fail
  (with_reducible refine (newLedger_any _).mono ?_)
  rintro e w4 ⟨rfl, hl4, hx4⟩
  have Z4 := Lib.hid (And.intro (IsS.ext hx4 Z3.out.1) (And.intro hl4 (Z3.out.2.trans hx4)))
  clear hx4 Z3 hl4
  go_wp2_with fail
  (with_reducible refine (new_any _).mono ?_)
  rintro e w5 ⟨q5, rfl, hs5, hx5⟩
  have Z5 := Lib.hid (And.intro (IsS.ext hx5 Z4.out.1) (And.intro (Z4.out.2.1.ext hx5) (Z4.out.2.2.trans hx5)))
  have HC5 := Lib.hid (cmp_none q5 _ _ w5 hs5 (Z4.out.2.1.ext hx5))
  clear hx5 Z4 hs5
  go_wp2_with fail
  (with_reducible refine HC5.out.mono ?_)
  rintro e w6 ⟨A6, c6, rfl, hx6⟩
  have Z6 := Lib.hid (And.intro (IsS.ext hx6 Z5.out.1) (Z5.out.2.2.trans hx6))
  clear hx6 Z5 HC5
  go_wp2_with fail
  (with_reducible refine (newLedger_any _).mono ?_)
  rintro e w7 ⟨rfl, hl7, hx7⟩
  have Z7 := Lib.hid (And.intro (IsS.ext hx7 Z6.out.1) (Z6.out.2.trans hx7))
  have HC7 := Lib.hid (cmp_first now q _ _ w7 Z7.out.1 hl7)
  have HAl := Lib.hid (fun W hW => all_built now q W hW)
  generalize (allL (stB (now.take 20))).length = N at HC7 HAl
  clear hx7 Z6 hl7
  go_wp2_with fail
  (with_reducible refine HC7.out.mono ?_)
  rintro e w8 ⟨A8, c8, rfl, hx8⟩
  have Z8 := Lib.hid (And.intro (IsS.ext hx8 Z7.out.1) (Z7.out.2.trans hx8))
  clear hx8 Z7 HC7
  go_wp2_with fail
  (with_reducible refine (known_any _).mono ?_)
  rintro e w9 ⟨rfl, hx9⟩
  have Z9 := Lib.hid (And.intro (IsS.ext hx9 Z8.out.1) (Z8.out.2.trans hx9))
  clear hx9 Z8
  go_wp2_with fail
  (with_reducible refine (HAl.out _ Z9.out.1).mono ?_)
  rintro e w10 ⟨A10, c10, rfl, hx10⟩
  have Z10 := Lib.hid (Z9.out.2.trans hx10)
  clear hx10 Z9 HAl
  go_wp2_with fail
  (with_reducible refine (diff_none _).mono ?_)
  rintro e w11 ⟨A11, c11, rfl, hx11⟩
  have Z11 := Lib.hid (Z10.out.trans hx11)
  clear hx11 Z10
  go_wp2_with fail
  (with_reducible refine (count_none _).mono ?_)
  rintro e w12 ⟨rfl, hx12⟩
  have Z12 := Lib.hid (Z11.out.trans hx12)
  clear hx12 Z11
  go_wp2_with fail
  go_ret
  exact ⟨rfl, Z12.out⟩
end Go.Proofs.YtehmgeodpjmfaaaGreatDoor
