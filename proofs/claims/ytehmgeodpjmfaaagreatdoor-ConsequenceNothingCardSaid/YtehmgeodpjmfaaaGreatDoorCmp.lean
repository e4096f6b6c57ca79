/- cmp.Compare, cmp.Or, strings.Compare, slices.Compare at ints. -/
import Derived.Test.YtehmgeodpjmfaaaGreatDoorProg
import Derived.Test.YtehmgeodpjmfaaaGreatDoorBase
import Derived.Outline
namespace Go.Proofs.YtehmgeodpjmfaaaGreatDoor
open Go.RowKit

def cmpI (a b : Int) : Int := if a < b then -1 else if b < a then 1 else 0
theorem cmpI_bd (a b : Int) : -1 ≤ cmpI a b ∧ cmpI a b ≤ 1 := by unfold cmpI; split <;> (try split) <;> omega

theorem isNaN_any (x : Int) (w : World) : Calls Tryz.prog 116 #[.int .i64 x] w fun e w' => e = .returned (.bool false) ∧ w = w' := by
  go_enter Tryz.func116, Tryz.ntmps116
  go_wp2
  go_ret
  exact ⟨by simp, rfl⟩

theorem cmp_any (x y : Int) (w : World) : Calls Tryz.prog 91 #[.int .i64 x, .int .i64 y] w fun e w' => e = .returned (.int .i64 (cmpI x y)) ∧ w = w' := by
  go_enter Tryz.func91, Tryz.ntmps91
  go_wp2_with (go_at_call 116; refine (isNaN_any _ _).mono ?_; rintro e w' ⟨rfl, rfl⟩)
  · have h : x < y := by assumption
    go_ret
    exact ⟨ret_int (by unfold cmpI; rw [if_pos h]), rfl⟩
  · have h : y < x := by assumption
    go_ret
    exact ⟨ret_int (by unfold cmpI; rw [if_neg (by omega), if_pos h]), rfl⟩
  · have h : x ≤ y := by assumption
    have h' : y ≤ x := by assumption
    go_ret
    exact ⟨ret_int (by unfold cmpI; rw [if_neg (by omega), if_neg (by omega)]), rfl⟩

/-- The first number that is not 0, or 0. -/
def orI : List Int → Int
  | [] => 0
  | x :: l => if x = 0 then orI l else x

theorem orI_skip (l : List Int) (k : Nat) (hk : k < l.length) (h : l.getD k 0 = 0) : orI (l.drop k) = orI (l.drop (k + 1)) := by
  rw [List.drop_eq_getElem_cons hk]
  have : l[k] = 0 := by simpa [hk] using h
  simp [orI, this]
theorem orI_hit (l : List Int) (k : Nat) (hk : k < l.length) (h : l.getD k 0 ≠ 0) : orI (l.drop k) = l.getD k 0 := by
  rw [List.drop_eq_getElem_cons hk]
  have e : l.getD k 0 = l[k] := by simp [hk]
  rw [e] at h ⊢
  simp [orI, h]

theorem or_any (v : Value) (l : List Int) (w : World) (hr : Rd w 1 encI v l) : Calls Tryz.prog 90 #[v] w fun e w' => e = .returned (.int .i64 (orI l)) ∧ w = w' := by
  obtain ⟨hm, A, c, rfl, hc⟩ := hr.int
  clear hr
  go_enter Tryz.func90, Tryz.ntmps90
  go_wp2
  go_loop [8] (fun i => ∃ k : Nat, k ≤ l.length ∧ i = .int .i64 k ∧ orI (l.drop k) = orI l) (fun i => l.length - (intOf i).toNat)
  case atStart => exact ⟨0, Nat.zero_le _, rfl, rfl⟩
  case round =>
    obtain ⟨k, hk, rfl, ho⟩ := hrel
    have HO := Lib.hid ho; clear ho
    by_cases hlt : k < l.length
    · obtain ⟨b, off, rfl, hb, hcell⟩ := hc (by omega)
      have hck := hcell k hlt
      clear hcell hc
      by_cases hz : l.getD k 0 = 0
      · have hs := orI_skip l k hlt hz
        have HS := Lib.hid hs; clear hs
        rw [hz] at hck
        clear hz
        go_wp2
        go_round
        case rel => exact ⟨k + 1, by omega, by go_num, by rw [← HS.out, HO.out]⟩
        case measure => simp [intOf]; omega
      · have hs := orI_hit l k hlt hz
        have HS := Lib.hid hs; clear hs
        generalize l.getD k 0 = x at *
        go_wp2
        go_ret
        exact ⟨ret_int (by rw [← HS.out, HO.out]), rfl⟩
    · go_wp2
      go_ret
      refine ⟨ret_int ?_, rfl⟩
      rw [← HO.out, List.drop_of_length_le (by omega)]; rfl
end Go.Proofs.YtehmgeodpjmfaaaGreatDoor
