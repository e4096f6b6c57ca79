/- lineage.Valid, Ordinals, Compare; slices.Compare at ints; object.Compare. -/
import Derived.Test.YtehmgeodpjmfaaaGreatDoorParse
import Derived.Test.YtehmgeodpjmfaaaGreatDoorCmp
namespace Go.Proofs.YtehmgeodpjmfaaaGreatDoor
open Go.RowKit

set_option maxRecDepth 100000 in
theorem valid_any (s : ByteArray) (hs : s.size ≤ 9223372036854775000) (w : World) :
    Calls Tryz.prog 70 #[.string s] w fun e w' => e = .returned (.bool (validS s.data.toList)) ∧ Ext w w' := by
  go_enter Tryz.func70, Tryz.ntmps70
  go_wp2_with (go_at_call 97; refine (parse_any _ hs _).mono ?_; rintro e w' ⟨v, rfl, hr, hx⟩)
  go_ret
  exact ⟨rfl, by assumption⟩

set_option maxRecDepth 100000 in
theorem ords_any (s : ByteArray) (hs : s.size ≤ 9223372036854775000) (w : World) :
    Calls Tryz.prog 118 #[.string s] w fun e w' => ∃ v, e = .returned v ∧ Rd w' 1 encI v (ordsS s.data.toList) ∧ Ext w w' := by
  go_enter Tryz.func118, Tryz.ntmps118
  go_wp2_with (go_at_call 97; refine (parse_any _ hs _).mono ?_; rintro e w' ⟨v, rfl, hr, hx⟩)
  go_ret
  exact ⟨_, rfl, by assumption, by assumption⟩

def cmpL : List Int → List Int → Int
  | [], [] => 0
  | [], _ :: _ => -1
  | _ :: _, [] => 1
  | x :: l, y :: m => if cmpI x y = 0 then cmpL l m else cmpI x y
theorem cmpL_nil (m : List Int) : cmpL [] m = if m.length = 0 then 0 else -1 := by cases m <;> simp [cmpL]
theorem cmpL_none (l : List Int) (h : 0 < l.length) : cmpL l [] = 1 := by cases l <;> simp_all [cmpL]
theorem cmpL_step (l m : List Int) (k : Nat) (h1 : k < l.length) (h2 : k < m.length) (h : cmpI (l.getD k 0) (m.getD k 0) = 0) : cmpL (l.drop k) (m.drop k) = cmpL (l.drop (k + 1)) (m.drop (k + 1)) := by
  rw [List.drop_eq_getElem_cons h1, List.drop_eq_getElem_cons h2]
  have e : cmpI l[k] m[k] = 0 := by simpa [h1, h2] using h
  simp [cmpL, e]
theorem cmpL_hit (l m : List Int) (k : Nat) (h1 : k < l.length) (h2 : k < m.length) (h : cmpI (l.getD k 0) (m.getD k 0) ≠ 0) : cmpL (l.drop k) (m.drop k) = cmpI (l.getD k 0) (m.getD k 0) := by
  rw [List.drop_eq_getElem_cons h1, List.drop_eq_getElem_cons h2]
  have e : cmpI l[k] m[k] ≠ 0 := by simpa [h1, h2] using h
  simp [cmpL, e, h1, h2]

set_option maxHeartbeats 1600000 in
set_option maxRecDepth 100000 in
theorem scmp_any (v u : Value) (l m : List Int) (w : World) (hl : Rd w 1 encI v l) (hm : Rd w 1 encI u m) :
    Calls Tryz.prog 117 #[v, u] w fun e w' => e = .returned (.int .i64 (cmpL l m)) ∧ w = w' := by
  obtain ⟨hlm, A, c, rfl, hcl⟩ := hl.int
  obtain ⟨hmm, B, d, rfl, hcm⟩ := hm.int
  clear hl hm
  have HCL := Lib.hid hcl
  have HCM := Lib.hid hcm
  clear hcl hcm
  go_enter Tryz.func117, Tryz.ntmps117
  go_wp2
  go_loop [11] (fun i => ∃ k : Nat, k ≤ l.length ∧ k ≤ m.length ∧ i = .int .i64 k ∧ Hid (cmpL (l.drop k) (m.drop k) = cmpL l m)) (fun i => l.length - (intOf i).toNat)
  case atStart => exact ⟨0, Nat.zero_le _, Nat.zero_le _, rfl, rfl⟩
  case round =>
    obtain ⟨k, hk, hk2, rfl, ho⟩ := hrel
    by_cases hlt : k < l.length
    · obtain ⟨b, off, rfl, hb, hcell⟩ := HCL.out (by omega)
      have hck := hcell k hlt
      clear hcell
      by_cases hlt2 : k < m.length
      · obtain ⟨b2, off2, rfl, hb2, hcell2⟩ := HCM.out (by omega)
        have hck2 := hcell2 k hlt2
        clear hcell2
        by_cases hz : cmpI (l.getD k 0) (m.getD k 0) = 0
        · have hs := cmpL_step l m k hlt hlt2 hz
          have HS := Lib.hid hs; clear hs
          generalize l.getD k 0 = x at *
          generalize m.getD k 0 = y at *
          have hcn : (cmpI x y != 0) = false := by simp [hz]
          have HZ := Lib.hid hz; clear hz
          go_wp2_with (go_at_call 91; refine (cmp_any _ _ _).mono ?_; rintro e w' ⟨rfl, rfl⟩)
          go_round
          case rel => exact ⟨k + 1, by omega, by omega, by go_num, by rw [← HS.out]; exact ho⟩
          case measure => simp [intOf]; omega
        · have hs := cmpL_hit l m k hlt hlt2 hz
          have HS := Lib.hid hs; clear hs
          generalize l.getD k 0 = x at *
          generalize m.getD k 0 = y at *
          have hcn : (cmpI x y != 0) = true := by simp [hz]
          have HZ := Lib.hid hz; clear hz
          go_wp2_with (go_at_call 91; refine (cmp_any _ _ _).mono ?_; rintro e w' ⟨rfl, rfl⟩)
          go_ret
          exact ⟨ret_int (by rw [← ho.out, HS.out]), rfl⟩
      · go_wp2
        go_ret
        refine ⟨ret_int ?_, rfl⟩
        rw [← ho.out, List.drop_of_length_le (by omega : m.length ≤ k), cmpL_none _ (by simp; omega)]
    · by_cases hlt2 : k < m.length
      · go_wp2
        go_ret
        refine ⟨ret_int ?_, rfl⟩
        rw [← ho.out, List.drop_of_length_le (by omega : l.length ≤ k), cmpL_nil, if_neg (by simp; omega)]
      · go_wp2
        go_ret
        refine ⟨ret_int ?_, rfl⟩
        rw [← ho.out, List.drop_of_length_le (by omega : l.length ≤ k), cmpL_nil, if_pos (by simp; omega)]

def cmpN (a b : ByteArray) : Int := cmpL (ordsS a.data.toList) (ordsS b.data.toList)
set_option maxRecDepth 100000 in
theorem lcmp_any (a b : ByteArray) (ha : a.size ≤ 9223372036854775000) (hb : b.size ≤ 9223372036854775000) (va : validS a.data.toList = true) (vb : validS b.data.toList = true) (w : World) :
    Calls Tryz.prog 92 #[.string a, .string b] w fun e w' => e = .returned (.int .i64 (cmpN a b)) ∧ Ext w w' := by
  have cA : ∀ W, Calls Tryz.prog 70 #[.string a] W fun e w' => e = .returned (.bool true) ∧ Ext W w' := fun W => by have := valid_any a ha W; rwa [va] at this
  have cB : ∀ W, Calls Tryz.prog 70 #[.string b] W fun e w' => e = .returned (.bool true) ∧ Ext W w' := fun W => by have := valid_any b hb W; rwa [vb] at this
  have CA := Lib.hid cA
  have CB := Lib.hid cB
  clear cA cB va vb
  go_enter Tryz.func92, Tryz.ntmps92
  go_wp2_with fail
  refine (CA.out _).mono ?_
  rintro e w1 ⟨rfl, hx1⟩
  go_wp2_with fail
  refine (CB.out _).mono ?_
  rintro e w2 ⟨rfl, hx2⟩
  go_wp2_with fail
  refine (ords_any a ha _).mono ?_
  rintro e w3 ⟨v, rfl, hr3, hx3⟩
  go_wp2_with fail
  refine (ords_any b hb _).mono ?_
  rintro e w4 ⟨u, rfl, hr4, hx4⟩
  go_wp2_with fail
  refine (scmp_any _ _ _ _ _ (hr3.ext hx4) hr4).mono ?_
  rintro e w5 ⟨rfl, rfl⟩
  go_wp2
  go_ret
  exact ⟨rfl, ((hx1.trans hx2).trans hx3).trans hx4⟩
end Go.Proofs.YtehmgeodpjmfaaaGreatDoor
