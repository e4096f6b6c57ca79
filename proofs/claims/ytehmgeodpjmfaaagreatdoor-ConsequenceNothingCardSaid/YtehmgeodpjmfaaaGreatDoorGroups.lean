/- codec: groups, Parse. -/
import Derived.Deep.LoopGhost
import Derived.IntWalk
import Derived.Laws.BitsAllLaws
import Derived.Test.YtehmgeodpjmfaaaGreatDoorRdPure
namespace Go.Proofs.YtehmgeodpjmfaaaGreatDoor
open Go.RowKit

/-- A slice of bytes that lies: cell by cell. -/
theorem Rd.byte {w : World} {v : Value} {l : List UInt8} (h : Rd w 1 encB v l) : l.length ≤ 9223372036854775807 ∧ ∃ A c, v = .slice A l.length c ∧
    (0 < l.length → ∃ b off, A = some ⟨b, off, none⟩ ∧ b < w.heap.size ∧ ∀ j, j < l.length → w.cell? ⟨b, off + j, none⟩ = some (.int .u8 (l.getD j 0).toNat)) := by
  obtain ⟨hm, A, c, hv, hr⟩ := h
  refine ⟨hm, A, c, hv, fun h0 => ?_⟩
  obtain ⟨b, off, hA, hb, hc⟩ := hr h0
  refine ⟨b, off, hA, hb, fun j hj => ?_⟩
  have := hc j hj 0 (.int .u8 (l.getD j 0).toNat) (by simp [encB, hj])
  simpa [hj] using this
theorem and127 : ∀ y : Fin 256, bits BinOp.and IntKind.u8 (y.1 : Int) 127 = ((y.1 % 128 : Nat) : Int) := by decide +kernel

theorem or_grp (u x i : Nat) (hu : u < 128 ^ i) (hi : i ≤ 8) : bits BinOp.or IntKind.u64 (u : Int) (IntKind.u64.wrap ((x : Int) % 128 * 2 ^ (7 * i))) = ((u + x % 128 * 128 ^ i : Nat) : Int) := by
  have e : (128 : Nat) ^ i = 2 ^ (7 * i) := by rw [Nat.pow_mul]
  have hb : 2 ^ (7 * i) ≤ 2 ^ 56 := Nat.pow_le_pow_right (by omega) (by omega)
  rw [e] at hu ⊢
  have hp : x % 128 * 2 ^ (7 * i) ≤ 127 * 2 ^ 56 := Nat.mul_le_mul (by omega) hb
  have c : ((x : Int) % 128 * 2 ^ (7 * i)) = ((x % 128 * 2 ^ (7 * i) : Nat) : Int) := by push_cast; rfl
  rw [c, IntWalk.u64_in _ (by omega), u64_or_nat u _ (by omega) (by omega), Nat.or_comm, ← Nat.shiftLeft_eq, ← Nat.shiftLeft_add_eq_or_of_lt hu, Nat.add_comm]
theorem grp_lt (u x i : Nat) (hu : u < 128 ^ i) : u + x % 128 * 128 ^ i < 128 ^ (i + 1) := by
  rw [Nat.pow_succ]
  have : x % 128 * 128 ^ i ≤ 127 * 128 ^ i := Nat.mul_le_mul_right _ (by omega)
  omega

theorem grp_drop (most i u : Nat) (l : List UInt8) (h : i < l.length) : grpGo most i u (l.drop i) = if i = most then (0, 0, 3) else
    if (l.getD i 0).toNat < 128 then (if (l.getD i 0).toNat = 0 ∧ 0 < i then (0, 0, 3) else (u + ((l.getD i 0).toNat % 128) * 128 ^ i, i + 1, 0)) else grpGo most (i + 1) (u + ((l.getD i 0).toNat % 128) * 128 ^ i) (l.drop (i + 1)) := by
  rw [List.drop_eq_getElem_cons h, grpGo]
  simp [h]

set_option maxHeartbeats 8000000 in
set_option maxRecDepth 100000 in
theorem groups_any (v : Value) (l : List UInt8) (w : World) (h : Rd w 1 encB v l) :
    Calls Tryz.prog 140 #[v, .int .i64 9] w fun e w' => e = .returned (.tuple #[.int .u64 (prsL l).1, .int .i64 (prsL l).2.1, .int .i64 (prsL l).2.2]) ∧ w = w' := by
  obtain ⟨hm, A, c, rfl, hr⟩ := h.byte
  have HR := Lib.hid hr
  clear hr h
  go_enter Tryz.func140, Tryz.ntmps140
  go_wp2_with fail
  go_loopg [7, 12] l.length (fun g a d wx => ∃ (i u : Nat), a = .int .u64 u ∧ d = .int .i64 i ∧ i + g = l.length ∧ i ≤ 9 ∧ u < 128 ^ i ∧ Aside (grpGo 9 i u (l.drop i) = prsL l) ∧ w = wx)
  case atStart => exact ⟨0, 0, rfl, rfl, by omega, by omega, by omega, rfl, rfl⟩
  case round =>
    obtain ⟨i, u, rfl, rfl, hg, hi9, hu, hA, rfl⟩ := hrel
    by_cases hlt : i < l.length
    · obtain ⟨b, off, rfl, hb, hcell⟩ := HR.out (by omega)
      have hc := hcell i hlt
      have HG := Lib.hid ((grp_drop 9 i u l hlt).symm.trans hA.out)
      clear hcell hA
      have hx : (l.getD i 0).toNat < 256 := UInt8.toNat_lt _
      generalize (l.getD i 0).toNat = x at hc HG hx
      have h127 := and127 ⟨x, hx⟩
      simp only at h127
      by_cases h9 : i = 9
      · subst h9
        have H : prsL l = (0, 0, 3) := by rw [← HG.out, if_pos rfl]
        have HH := Lib.hid H
        clear H HG
        go_wp2_with fail
        go_ret3
        exact ⟨by rw [HH.out]; rfl, rfl⟩
      · have h9' : ((i : Int) == 9) = false := by simp; omega
        have HO := Lib.hid (or_grp u x i hu (by omega))
        have hi8 : i ≤ 8 := by omega
        by_cases h128 : x < 128
        · by_cases hz : x = 0 ∧ 0 < i
          · obtain ⟨hx0, hz⟩ := hz
            have H : prsL l = (0, 0, 3) := by rw [← HG.out, if_neg h9, if_pos (by omega), if_pos ⟨hx0, hz⟩]
            have HH := Lib.hid H
            have hx0' : ((x : Int) == 0) = true := by simp; omega
            have hz' : decide (0 < i) = true := by simp; omega
            clear H HG hx0 hz
            go_wp2_with fail
            go_ret3
            exact ⟨by rw [HH.out]; rfl, rfl⟩
          · have H : prsL l = (u + x % 128 * 128 ^ i, i + 1, 0) := by rw [← HG.out, if_neg h9, if_pos h128, if_neg hz]
            have HH := Lib.hid H
            clear H HG
            by_cases hx0 : x = 0
            · have hi0 : i = 0 := by omega
              have hi0' : decide (0 < i) = false := by simp; omega
              have hx0' : ((x : Int) == 0) = true := by simp; omega
              clear hi0 hx0 hz
              go_wp2_with fail
              go_ret3
              exact ⟨by rw [HH.out, ← HO.out]; rfl, rfl⟩
            · have hx0' : ((x : Int) == 0) = false := by simp; omega
              go_wp2_with fail
              go_ret3
              exact ⟨by rw [HH.out, ← HO.out]; rfl, rfl⟩
        · go_wp2_with fail
          go_roundg (l.length - (i + 1))
          case measure => omega
          case rel =>
            exact ⟨i + 1, u + x % 128 * 128 ^ i, by rw [← HO.out], by go_num, by omega, by omega, grp_lt u x i hu, by (show grpGo 9 (i + 1) _ _ = prsL l); rw [← HG.out, if_neg h9, if_neg h128], rfl⟩
    · obtain rfl : i = l.length := by omega
      have H := hA.out
      rw [List.drop_of_length_le (Nat.le_refl _), grpGo] at H
      have HH := Lib.hid H
      clear H hA
      by_cases h9 : 9 ≤ l.length
      · have h9' : (9 ≤ (l.length : Int)) := by omega
        go_wp2_with fail
        go_ret3
        exact ⟨by rw [← HH.out, if_pos h9]; rfl, rfl⟩
      · have h9' : ((l.length : Int) < 9) := by omega
        go_wp2_with fail
        go_ret3
        exact ⟨by rw [← HH.out, if_neg h9]; rfl, rfl⟩

set_option maxHeartbeats 4000000 in
theorem parse_b (v : Value) (l : List UInt8) (w : World) (h : Rd w 1 encB v l) :
    Calls Tryz.prog 122 #[v] w fun e w' => e = .returned (.tuple #[.int .i64 (prsL l).1, .int .i64 (prsL l).2.1, .int .i64 (prsL l).2.2]) ∧ w = w' := by
  have hn := (parse_bound l).1
  go_enter Tryz.func122, Tryz.ntmps122
  go_wp2_with (go_at_call 140; refine (groups_any _ l _ h).mono ?_; rintro e w' ⟨rfl, rfl⟩)
  go_ret3
  exact ⟨rfl, rfl⟩
end Go.Proofs.YtehmgeodpjmfaaaGreatDoor
