/- object.Compare: as a function of the two names. -/
import Derived.Deep.RegionHeld3
import Derived.Lib.Bytealg
import Derived.Lib.Slices
import Derived.Lib.Walk
import Derived.Test.YtehmgeodpjmfaaaGreatDoorLin
namespace Go.Proofs.YtehmgeodpjmfaaaGreatDoor
open Go.RowKit

set_option maxHeartbeats 1000000 in
set_option maxRecDepth 100000 in
theorem bcmp_any (a b : ByteArray) (w : World) :
    Calls Tryz.prog 119 #[.string a, .string b] w fun e w' => e = .returned (.int .i64 (Lib.compareBytes a.data.toList b.data.toList)) ∧ w = w' := by
  go_enter Tryz.func119, Tryz.ntmps119
  go_wp2
  rw [run_callFunc_extern Tryz.func139 (by kernel_rfl) (by kernel_rfl) (by kernel_rfl) (e := Extern.BytealgCompare.compare) (by kernel_rfl), Lib.run_compareString]
  simp only [Result.andThen]
  rw [Oper.upon_value]
  go_wp2
  go_ret
  exact ⟨rfl, rfl⟩
theorem strcmp_any (a b : ByteArray) (w : World) :
    Calls Tryz.prog 93 #[.string a, .string b] w fun e w' => e = .returned (.int .i64 (Lib.compareBytes a.data.toList b.data.toList)) ∧ w = w' := by
  go_enter Tryz.func93, Tryz.ntmps93
  go_wp2_with (go_at_call 119; refine (bcmp_any _ _ _).mono ?_; rintro e w' ⟨rfl, rfl⟩)
  go_ret
  exact ⟨rfl, rfl⟩

theorem Rd_new_int (w : World) (T : TypeId) (xs : List Int) (h : xs.length ≤ 9223372036854775807) : Rd (w.alloc (.cells (xs.map (Value.int .i64)).toArray T)) 1 encI (.slice (some ⟨w.heap.size, 0, none⟩) xs.length xs.length) xs := by
  refine ⟨h, _, _, rfl, fun _ => ⟨w.heap.size, 0, rfl, by simp, fun j hj i u hu => ?_⟩⟩
  have hi : i = 0 := by
    have := (List.getElem?_eq_some_iff.1 hu).1
    simp [encI] at this
    omega
  subst hi
  simp [encI] at hu
  subst hu
  simp

structure NameS where
  kind : Int
  owner : ByteArray
  number : Int
  index : Int
  text : ByteArray
  deriving DecidableEq
def encNm (n : NameS) : List Value := [.int .i64 n.kind, .string n.owner, .int .i64 n.number, .int .i64 n.index, .string n.text]
def nmV (n : NameS) : Value := .agg #[.int .i64 n.kind, .string n.owner, .int .i64 n.number, .int .i64 n.index, .string n.text]
def cmpNm (a b : NameS) : Int := orI [cmpI a.kind b.kind, cmpN a.owner b.owner, cmpI a.number b.number, cmpI a.index b.index, Lib.compareBytes a.text.data.toList b.text.data.toList]
/-- The owner may be compared. -/
def NmOk (n : NameS) : Prop := n.owner.size ≤ 9223372036854775000 ∧ validS n.owner.data.toList = true

set_option maxHeartbeats 4000000 in
set_option maxRecDepth 100000 in
theorem ocmp_any (a b : NameS) (ha : NmOk a) (hb : NmOk b) (w : World) :
    Calls Tryz.prog 65 #[nmV a, nmV b] w fun e w' => e = .returned (.int .i64 (cmpNm a b)) ∧ Ext w w' := by
  obtain ⟨k1, o1, n1, i1, t1⟩ := a
  obtain ⟨k2, o2, n2, i2, t2⟩ := b
  obtain ⟨ha1, ha2⟩ := ha
  obtain ⟨hb1, hb2⟩ := hb
  have HL := Lib.hid (fun W => lcmp_any o1 o2 ha1 hb1 ha2 hb2 W)
  clear ha1 ha2 hb1 hb2
  simp only [nmV]
  go_enter Tryz.func65, Tryz.ntmps65
  go_wp2
  obtain ⟨W1, hW1⟩ : ∃ W1, (w.alloc (.cells #[.int .i64 k1, .string o1, .int .i64 n1, .int .i64 i1, .string t1] 78)).alloc (.cells #[.int .i64 k2, .string o2, .int .i64 n2, .int .i64 i2, .string t2] 78) = W1 := ⟨_, rfl⟩
  have hB : Ext w W1 := by rw [← hW1]; exact ((Ext.refl w).alloc _).alloc _
  have a0 : W1.cell? ⟨w.heap.size, 0, none⟩ = some (.int .i64 k1) := by rw [← hW1]; simp
  have a1 : W1.cell? ⟨w.heap.size, 1, none⟩ = some (.string o1) := by rw [← hW1]; simp
  have a2 : W1.cell? ⟨w.heap.size, 2, none⟩ = some (.int .i64 n1) := by rw [← hW1]; simp
  have a3 : W1.cell? ⟨w.heap.size, 3, none⟩ = some (.int .i64 i1) := by rw [← hW1]; simp
  have a4 : W1.cell? ⟨w.heap.size, 4, none⟩ = some (.string t1) := by rw [← hW1]; simp
  have b0 : W1.cell? ⟨w.heap.size + 1, 0, none⟩ = some (.int .i64 k2) := by rw [← hW1]; simp
  have b1 : W1.cell? ⟨w.heap.size + 1, 1, none⟩ = some (.string o2) := by rw [← hW1]; simp
  have b2 : W1.cell? ⟨w.heap.size + 1, 2, none⟩ = some (.int .i64 n2) := by rw [← hW1]; simp
  have b3 : W1.cell? ⟨w.heap.size + 1, 3, none⟩ = some (.int .i64 i2) := by rw [← hW1]; simp
  have b4 : W1.cell? ⟨w.heap.size + 1, 4, none⟩ = some (.string t2) := by rw [← hW1]; simp
  rw [hW1]
  have hD := (Ext.refl W1).drew
  clear hW1
  go_region_held3 (fun W => W.cell? ⟨w.heap.size, 0, none⟩ = some (.int .i64 k1) ∧ W.cell? ⟨w.heap.size, 1, none⟩ = some (.string o1) ∧ W.cell? ⟨w.heap.size, 2, none⟩ = some (.int .i64 n1) ∧ W.cell? ⟨w.heap.size, 3, none⟩ = some (.int .i64 i1) ∧ W.cell? ⟨w.heap.size, 4, none⟩ = some (.string t1) ∧ W.cell? ⟨w.heap.size + 1, 0, none⟩ = some (.int .i64 k2) ∧ W.cell? ⟨w.heap.size + 1, 1, none⟩ = some (.string o2) ∧ W.cell? ⟨w.heap.size + 1, 2, none⟩ = some (.int .i64 n2) ∧ W.cell? ⟨w.heap.size + 1, 3, none⟩ = some (.int .i64 i2) ∧ W.cell? ⟨w.heap.size + 1, 4, none⟩ = some (.string t2))
    (exact ⟨Ext.cell_some (w := W1) (by first | assumption | exact Ext.alloc (by assumption) _) a0, Ext.cell_some (w := W1) (by first | assumption | exact Ext.alloc (by assumption) _) a1, Ext.cell_some (w := W1) (by first | assumption | exact Ext.alloc (by assumption) _) a2, Ext.cell_some (w := W1) (by first | assumption | exact Ext.alloc (by assumption) _) a3, Ext.cell_some (w := W1) (by first | assumption | exact Ext.alloc (by assumption) _) a4, Ext.cell_some (w := W1) (by first | assumption | exact Ext.alloc (by assumption) _) b0, Ext.cell_some (w := W1) (by first | assumption | exact Ext.alloc (by assumption) _) b1, Ext.cell_some (w := W1) (by first | assumption | exact Ext.alloc (by assumption) _) b2, Ext.cell_some (w := W1) (by first | assumption | exact Ext.alloc (by assumption) _) b3, Ext.cell_some (w := W1) (by first | assumption | exact Ext.alloc (by assumption) _) b4⟩)
    (first | (go_at_call 91; refine (cmp_any _ _ _).mono ?_; rintro e w' ⟨rfl, rfl⟩) | (go_at_call 92; refine (HL.out _).mono ?_; rintro e w2 ⟨rfl, hx2⟩; have hD2 := Ext.trans (a := W1) (by assumption) hx2) | (go_at_call 93; refine (strcmp_any _ _ _).mono ?_; rintro e w' ⟨rfl, rfl⟩) | (go_at_call 90; refine (or_any _ [cmpI k1 k2, cmpN o1 o2, cmpI n1 n2, cmpI i1 i2, Lib.compareBytes t1.data.toList t2.data.toList] _ (Rd_new_int _ _ [cmpI k1 k2, cmpN o1 o2, cmpI n1 n2, cmpI i1 i2, Lib.compareBytes t1.data.toList t2.data.toList] (by simp))).mono ?_; rintro e w' ⟨rfl, rfl⟩))
  go_wp2
  go_ret
  exact ⟨rfl, hB.trans (Ext.alloc (by assumption) _)⟩
end Go.Proofs.YtehmgeodpjmfaaaGreatDoor
