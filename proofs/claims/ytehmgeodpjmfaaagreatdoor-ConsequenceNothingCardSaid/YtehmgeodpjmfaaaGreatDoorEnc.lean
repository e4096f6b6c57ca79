/- output: Encode, Decode. -/
import Derived.Test.YtehmgeodpjmfaaaGreatDoorOut
namespace Go.Proofs.YtehmgeodpjmfaaaGreatDoor
open Go.RowKit

theorem Fr.ext {a w w' : World} {b : Nat} {v : Value} (h : Fr b v w w') (ha : Ext a w) (hb : a.heap.size ≤ b) (hv : ∀ g, v.ownBlock = some g → a.heap.size ≤ g) : Ext a w' :=
  ⟨h.os.trans (Below.os ha), h.tape.trans (Below.tape ha), h.output.trans (Below.output ha), Nat.le_trans ha.size h.size, fun k hk => by
    rw [h.block k (Nat.lt_of_lt_of_le hk ha.size) (by omega) (fun e => by have := hv k e.symm; omega)]
    exact ha.block hk⟩
theorem outL_len (o : OutS) (ho : o.chk = 0) : (outL o).length ≤ 4300 := by
  obtain ⟨o1, o2, o3, o4, _, o5, o6, o7⟩ := chk_ok ho
  have n1 := nat_len10 o.chan.toNat (by omega)
  have n2 := nat_len10 o.target.size (by omega)
  have n3 := nat_len10 o.text.size (by omega)
  have n4 := nat_len10 o.user.toNat (by omega)
  have t1 : o.target.data.toList.length = o.target.size := Array.length_toList
  have t2 : o.text.data.toList.length = o.text.size := Array.length_toList
  unfold outL txtL
  rw [List.length_append, List.length_append, List.length_append, List.length_append, List.length_append, t1, t2]
  omega

set_option maxHeartbeats 4000000 in
set_option maxRecDepth 100000 in
theorem encode_ok (o : OutS) (ho : o.chk = 0) (w : World) :
    Calls Tryz.prog 28 #[outV o] w fun e w' => e = .returned (.tuple #[.string ⟨(outL o).toArray⟩, .int .i64 0]) ∧ Ext w w' := by
  obtain ⟨o1, o2, o3, o4, _, o5, o6, o7⟩ := chk_ok ho
  have HC := Lib.hid (fun W => by have := chk_any o W (by omega) (by omega); rwa [ho] at this)
  have HW := Lib.hid (fun b v W hW => owrite_any b [] v o ho W hW (by simp))
  have HB := Lib.hid (fun b v W hW => bytes_w b (outL o) v W hW (by have := outL_len o ho; omega))
  clear ho
  generalize outL o = L at HW HB ⊢
  obtain ⟨ch, tg, tx, us⟩ := o
  simp only [outV] at HC HW ⊢
  go_enter Tryz.func28, Tryz.ntmps28
  go_wp2_with fail
  (with_reducible refine (HC.out _).mono ?_)
  rintro e w1 ⟨rfl, hx1⟩
  have hb1 := (hx1.block (b := w.heap.size) (by simp)).trans (heap_new w _)
  have c10 := (cells_at hb1).1 0 _ rfl
  have c11 := (cells_at hb1).1 1 _ rfl
  have c12 := (cells_at hb1).1 2 _ rfl
  have c13 := (cells_at hb1).1 3 _ rfl
  simp only [List.getElem_toArray, List.getElem_cons_zero, List.getElem_cons_succ] at c10 c11 c12 c13
  have HB1 := Lib.hid (And.intro hx1 hb1)
  clear hb1 hx1
  go_wp2_with fail
  (with_reducible refine (newWriter_any _).mono ?_)
  rintro e w2 ⟨rfl, hW2, hx2⟩
  have c20 := hx2.cell_some c10
  have c21 := hx2.cell_some c11
  have c22 := hx2.cell_some c12
  have c23 := hx2.cell_some c13
  have HZ2 := Lib.hid (And.intro hW2 hx2)
  clear hW2 hx2 c10 c11 c12 c13
  go_wp2_with fail
  (with_reducible refine (HW.out _ _ _ HZ2.out.1).mono ?_)
  rintro e w3 ⟨⟨r, rfl⟩, v3, hW3, hF3, hO3⟩
  have HZ3 := Lib.hid (And.intro hW3 (And.intro hF3 hO3))
  clear hW3 hF3 hO3 c20 c21 c22 c23
  go_wp2_with fail
  (with_reducible refine (HB.out _ v3 _ HZ3.out.1).mono ?_)
  rintro e w4 ⟨x, rfl, hr4, hx4⟩
  have hcv := conv_str w4 _ _ hr4
  have HZ4 := Lib.hid hx4
  clear hr4 hx4
  go_wp2_with fail
  go_ret2
  refine ⟨rfl, ?_⟩
  have e1 : Ext w w1 := ((Ext.refl w).alloc _).trans HB1.out.1
  have e2 := e1.trans HZ2.out.2
  exact (HZ3.out.2.1.ext e2 e1.size (fun g hg => by cases hg)).trans HZ4.out
set_option maxHeartbeats 4000000 in
set_option maxRecDepth 100000 in
theorem encode_bad (o : OutS) (ho : o.chk ≠ 0) (ht : o.target.size ≤ 9223372036854775000) (hx : o.text.size ≤ 9223372036854775000) (w : World) :
    Calls Tryz.prog 28 #[outV o] w fun e w' => e = .returned (.tuple #[.string ⟨#[]⟩, .int .i64 o.chk]) ∧ Ext w w' := by
  have HC := Lib.hid (fun W => chk_any o W ht hx)
  have ho' : (o.chk != 0) = true := by simpa using ho
  clear ho ht hx
  generalize o.chk = k at HC ho' ⊢
  obtain ⟨ch, tg, tx, us⟩ := o
  simp only [outV] at HC ⊢
  go_enter Tryz.func28, Tryz.ntmps28
  go_wp2_with fail
  (with_reducible refine (HC.out _).mono ?_)
  rintro e w1 ⟨rfl, hx1⟩
  have HX1 := Lib.hid hx1
  clear hx1
  go_wp2_with fail
  go_ret2
  exact ⟨rfl, ((Ext.refl w).alloc _).trans HX1.out⟩
end Go.Proofs.YtehmgeodpjmfaaaGreatDoor
