/- codec: natural, as the list of its bytes. -/
import Derived.Deep.LoopGhost
import Derived.OwnWalk
import Derived.Test.YtehmgeodpjmfaaaGreatDoorCmp
namespace Go.Proofs.YtehmgeodpjmfaaaGreatDoor
open Go.RowKit

def natL (n : Nat) : List UInt8 := if h : n < 128 then [UInt8.ofNat n] else UInt8.ofNat (n % 128 + 128) :: natL (n / 128)
termination_by n
theorem natL_small {n : Nat} (h : n < 128) : natL n = [UInt8.ofNat n] := by rw [natL]; simp [h]
theorem natL_big {n : Nat} (h : 128 ≤ n) : natL n = UInt8.ofNat (n % 128 + 128) :: natL (n / 128) := by rw [natL]; simp [show ¬ n < 128 by omega]
theorem natL_len : ∀ (k n : Nat), n < 128 ^ k → 0 < k → (natL n).length ≤ k
  | 0, _, _, h => by omega
  | k + 1, n, h, _ => by
    by_cases hn : n < 128
    · rw [natL_small hn]; simp
    · rw [natL_big (by omega)]
      have : n / 128 < 128 ^ k := by rw [Nat.div_lt_iff_lt_mul (by omega)]; rwa [Nat.pow_succ] at h
      have hk : 0 < k := by
        rcases Nat.eq_zero_or_pos k with rfl | hk
        · simp at h; omega
        · exact hk
      have := natL_len k (n / 128) this hk
      simp; omega
def encB (b : UInt8) : List Value := [.int .u8 b.toNat]
theorem info_byte : (Tryz.prog.info? 5).map (fun i => (i.zero, i.size, i.bytes)) = some (some (.int .u8 0), 1, 1) := by kernel_rfl

theorem bits_or128 : ∀ y : Fin 256, bits BinOp.or IntKind.u8 (y.1 : Int) 128 = ((y.1 % 128 + 128 : Nat) : Int) := by decide +kernel
theorem own_ge {w0 wr w1 : World} {o : Obj} {e : TypeId} {sz n : Nat} {v : Value} {xs : List Value} (hx : Ext w0 wr) (hr : wr.ownsRow w0.heap.size e sz v n xs) (hg : (wr.alloc o).grownBy w1 v.ownBlock) : Ext w0 w1 := by
  refine Below.grown (hx.alloc o) hg (by have := hx.size; simp; omega) (fun k e => ?_)
  rcases hr.2 with ⟨rfl, _⟩ | ⟨g, cap, cur, rfl, hb, _⟩
  · cases e
  · cases e; exact hb

set_option maxHeartbeats 8000000 in
set_option maxRecDepth 100000 in
theorem natural_any (u : Nat) (hu : u < 18446744073709551616) (w : World) :
    Calls Tryz.prog 109 #[.int .u64 u] w fun e w' => ∃ v, e = .returned v ∧ w'.ownsRow w.heap.size 5 1 v (natL u).length ((natL u).flatMap encB) ∧ Ext w w' := by
  obtain ⟨i0, hi, hz0, hz1, hz2⟩ := info_parts info_byte
  have hlen : (natL u).length ≤ 10 := natL_len 10 u (by omega) (by omega)
  go_enter Tryz.func109, Tryz.ntmps109
  go_wp2_with fail
  go_loopg [0, 3] u (fun g a d wx => ∃ (x : Nat) (pre : List UInt8) (v : Value), a = .int .u64 x ∧ d = v ∧ x ≤ g ∧ Aside (pre ++ natL x = natL u ∧ x < 18446744073709551616 ∧ wx.ownsRow w.heap.size 5 1 v pre.length (pre.flatMap encB) ∧ Ext w wx))
  case atStart => exact ⟨u, [], _, rfl, rfl, Nat.le_refl _, rfl, hu, World.ownsRow_nil _ _ _ _, Ext.refl _⟩
  case round =>
    obtain ⟨x, pre, v, rfl, hv, hg, hA⟩ := hrel
    have hv' := hv.symm
    subst hv'
    clear hv
    have HR := Lib.hid hA.out.2.2.1
    have HX := Lib.hid hA.out.2.2.2
    have HE := Lib.hid hA.out.1
    have hx64 := hA.out.2.1
    have hpl : pre.length < 10 := by
      have h1 := congrArg List.length HE.out
      have h2 : 0 < (natL x).length := by rw [natL]; split <;> simp
      rw [List.length_append] at h1; omega
    clear hA
    by_cases hx : x < 128
    · have hb : ((128 : Int) ≤ (x : Int)) = False := by simp; omega
      go_wp2_with (at_builtin; refine wpList_append_own _ rfl _ _ 46 rfl w.heap.size 5 i0 (.int .u8 0) 1 1 Tryz.underlying46 hi hz0 hz1 hz2 rfl (by decide) v pre.length _ rfl (HR.out.alloc _) ⟨wr.heap.size, 0, none⟩ 1 1 [_] rfl rfl (cell_one_new _ _ _) (by simp [Value.oneCell']) (by unfold maxLen; omega) (by omega) (by have := HX.out.size; simp; omega) ?_; intro v' w1 hown' hgrow _)
      go_ret
      refine ⟨_, rfl, ?_, own_ge HX.out HR.out hgrow⟩
      have he : encB (UInt8.ofNat x) = [.int .u8 x] := by unfold encB; rw [UInt8.toNat_ofNat', Nat.mod_eq_of_lt (by omega)]
      rw [← HE.out, natL_small hx, List.flatMap_append, List.length_append]
      simpa [he] using hown'
    · have hb : ((128 : Int) ≤ (x : Int)) = True := by simp; omega
      go_wp2_with (at_builtin; refine wpList_append_own _ rfl _ _ 46 rfl w.heap.size 5 i0 (.int .u8 0) 1 1 Tryz.underlying46 hi hz0 hz1 hz2 rfl (by decide) v pre.length _ rfl (HR.out.alloc _) ⟨wr.heap.size, 0, none⟩ 1 1 [_] rfl rfl (cell_one_new _ _ _) (by simp [Value.oneCell']) (by unfold maxLen; omega) (by omega) (by have := HX.out.size; simp; omega) ?_; intro v' w1 hown' hgrow _)
      go_roundg (x / 128)
      case measure => omega
      case rel =>
        refine ⟨x / 128, pre ++ [UInt8.ofNat (x % 128 + 128)], _, ?_, rfl, Nat.le_refl _, ?_, by omega, ?_, own_ge HX.out HR.out hgrow⟩
        · simp
        · rw [← HE.out, natL_big (n := x) (by omega), List.append_assoc]; rfl
        · have he : encB (UInt8.ofNat (x % 128 + 128)) = [.int .u8 (bits BinOp.or IntKind.u8 ((x : Int) % 256) 128)] := by
            have := bits_or128 ⟨x % 256, by omega⟩
            simp only at this
            unfold encB; rw [UInt8.toNat_ofNat', Nat.mod_eq_of_lt (by omega)]
            have h2 : ((x : Int) % 256) = ((x % 256 : Nat) : Int) := by omega
            rw [h2, this, Nat.mod_mod_of_dvd _ (by decide)]
          rw [List.flatMap_append, List.length_append, List.flatMap_cons, List.flatMap_nil, List.append_nil, he]
          exact hown'
end Go.Proofs.YtehmgeodpjmfaaaGreatDoor
