/- strconv.Atoi at one to six decimal digits. -/
import Derived.Test.YtehmgeodpjmfaaaGreatDoorProg
import Derived.Test.YtehmgeodpjmfaaaGreatDoorPartsPure
import Derived.Lib.ConvBytes
import Derived.Lib.Atoi
import Derived.Outline
namespace Go.Proofs.YtehmgeodpjmfaaaGreatDoor
open Go.RowKit

theorem numL_snoc (l : List UInt8) (c : UInt8) : numL (l ++ [c]) = numL l * 10 + ((c.toNat : Int) - 48) := by simp [numL]
theorem numL_take (l : List UInt8) (k : Nat) (h : k < l.length) : numL (l.take (k + 1)) = numL (l.take k) * 10 + ((l[k].toNat : Int) - 48) := by
  rw [List.take_succ_eq_append_getElem h, numL_snoc]
theorem numL_from (l : List UInt8) (h : ∀ c ∈ l, isDig c = true) : ∀ a : Int, 0 ≤ a → 0 ≤ l.foldl (fun a c => a * 10 + ((c.toNat : Int) - 48)) a ∧ l.foldl (fun a c => a * 10 + ((c.toNat : Int) - 48)) a < (a + 1) * 10 ^ l.length := by
  induction l with
  | nil => intro a ha; simp; omega
  | cons c l ih =>
    intro a ha
    have hc := h c (by simp)
    simp [isDig] at hc
    obtain ⟨i1, i2⟩ := ih (fun x hx => h x (by simp [hx])) (a * 10 + ((c.toNat : Int) - 48)) (by omega)
    refine ⟨i1, Int.lt_of_lt_of_le i2 ?_⟩
    rw [List.length_cons, Int.pow_succ, Int.mul_comm (10 ^ l.length) 10, ← Int.mul_assoc]
    exact Int.mul_le_mul_of_nonneg_right (by omega) (Int.le_of_lt (Int.pow_pos (by omega)))
theorem numL_bd (l : List UInt8) (h : ∀ c ∈ l, isDig c = true) : 0 ≤ numL l ∧ numL l < 10 ^ l.length := by
  have := numL_from l h 0 (by omega)
  simpa [numL] using this

set_option maxHeartbeats 1600000 in
set_option maxRecDepth 100000 in
theorem atoi_in (s : ByteArray) (w : World) (h1 : 1 ≤ s.size) (h6 : s.size ≤ 6) (hd : ∀ c ∈ s.data.toList, isDig c = true) :
    Calls Tryz.prog 149 #[.string s] w fun e w' => e = .returned (.tuple #[.int .i64 (numL s.data.toList), .nilIface]) ∧ Ext w w' := by
  have h0 : 0 < s.size := by omega
  have hfirst : isDig s[0] = true := hd _ (by simp [Array.mem_iff_getElem]; exact ⟨0, h0, rfl⟩)
  have hf48 : 48 ≤ (s[0].toNat : Int) := by simp [isDig] at hfirst; omega
  have hf57 : (s[0].toNat : Int) ≤ 57 := by simp [isDig] at hfirst; omega
  have hb1 : ((s[0].toNat : Int) == 45) = false := by simp; omega
  have hb2 : ((s[0].toNat : Int) == 43) = false := by simp; omega
  have g1 : (0 : Int) < (s.size : Int) := by omega
  have g2 : (s.size : Int) < 19 := by omega
  have hls : s.data.toList.length = s.size := rfl
  have hcv := Lib.run_convert_string_bytes (P := Tryz.prog) w 9 46 5 s (u := .string) Tryz.underlying9 Tryz.underlying46 Tryz.underlying5
  have hB : ∀ j, j < s.size → (Lib.bytesWorld w 5 s).cell? ⟨w.heap.size, j, none⟩ = some (.int .u8 (s.data.toList.getD j 0).toNat) := fun j hj => Lib.bytesWorld_cell w 5 s j hj
  have hE : Ext w (Lib.bytesWorld w 5 s) := ⟨rfl, rfl, rfl, by rw [Lib.bytesWorld_size]; omega, fun b hb => Lib.bytesWorld_at_old w _ s b hb⟩
  obtain ⟨W1, hW1⟩ : ∃ W1, W1 = Lib.bytesWorld w 5 s := ⟨_, rfl⟩
  rw [← hW1] at hcv hB hE
  have HB := Lib.hid hB
  have HD := Lib.hid hd
  have HL := Lib.hid hls
  clear hfirst hW1 hB hd hls
  go_enter Tryz.func149, Tryz.ntmps149
  go_wp2
  go_loop [49, 6] (fun vi vn => ∃ k : Nat, k ≤ s.size ∧ vi = .int .i64 k ∧ vn = .int .i64 (numL (s.data.toList.take k))) (fun vi _ => s.size - (intOf vi).toNat)
  case atStart => exact ⟨0, Nat.zero_le _, rfl, rfl⟩
  case round =>
    obtain ⟨k, hk, rfl, rfl⟩ := hrel
    have hbd := numL_bd (s.data.toList.take k) (fun c hc => HD.out c (List.mem_of_mem_take hc))
    have hpow : (10 : Int) ^ (s.data.toList.take k).length ≤ 1000000 := by
      have hl : (s.data.toList.take k).length ≤ 6 := by rw [List.length_take, HL.out]; omega
      have := Nat.pow_le_pow_right (n := 10) (by omega) hl
      exact Int.ofNat_le.2 this
    obtain ⟨hn0, hn1⟩ := hbd
    have hn2 : numL (s.data.toList.take k) < 1000000 := by omega
    clear hn1 hpow
    by_cases hkn : k < s.size
    · have hkl : k < s.data.toList.length := by rw [HL.out]; exact hkn
      have hst := numL_take s.data.toList k hkl
      have hc1 := HB.out k hkn
      have hdk : isDig s.data.toList[k] = true := HD.out _ (List.getElem_mem _)
      rw [show s.data.toList.getD k 0 = s.data.toList[k] from by rw [List.getD_eq_getElem?_getD, List.getElem?_eq_getElem hkl]; rfl] at hc1
      generalize s.data.toList[k] = x at hst hc1 hdk
      have h48 : 48 ≤ (x.toNat : Int) := by simp [isDig] at hdk; omega
      have h57 : (x.toNat : Int) ≤ 57 := by simp [isDig] at hdk; omega
      generalize numL (s.data.toList.take k) = a at *
      have HS := Lib.hid hst
      clear hst hdk hkl
      go_wp2
      go_round
      case rel => exact ⟨k + 1, by omega, by go_num, by rw [HS.out]⟩
      case measure => simp [intOf]; omega
    · have hke : k = s.size := by omega
      subst hke
      have hfin : s.data.toList.take s.size = s.data.toList := List.take_of_length_le (Nat.le_of_eq HL.out)
      rw [hfin]
      clear hfin
      go_wp2
      go_ret2
      exact ⟨rfl, hE⟩

set_option maxRecDepth 100000 in
theorem atoi_any (s : ByteArray) (w : World) (h1 : 1 ≤ s.size) (h6 : s.size ≤ 6) (hd : ∀ c ∈ s.data.toList, isDig c = true) :
    Calls Tryz.prog 142 #[.string s] w fun e w' => e = .returned (.tuple #[.int .i64 (numL s.data.toList), .nilIface]) ∧ Ext w w' := by
  have HA := Lib.hid (atoi_in s w h1 h6 hd)
  clear hd h1 h6
  go_enter Tryz.func142, Tryz.ntmps142
  go_wp2_with (go_at_call 149; refine HA.out.mono ?_; rintro e w' ⟨rfl, hx⟩)
  go_ret2
  exact ⟨rfl, hx⟩
end Go.Proofs.YtehmgeodpjmfaaaGreatDoor
