/- A row of bools that the call made: its cells, its writes. -/
import Derived.Laws.MakeOwn
import Derived.Test.YtehmgeodpjmfaaaGreatDoorGet
namespace Go.Proofs.YtehmgeodpjmfaaaGreatDoor
open Go.RowKit

def BoolsAt (w : World) (b : Nat) (S : List Bool) : Prop := w.heap[b]? = some (Obj.cells (S.map Value.bool).toArray 4 (0, 0))
theorem BoolsAt.lt {w : World} {b : Nat} {S : List Bool} (h : BoolsAt w b S) : b < w.heap.size := (Array.getElem?_eq_some_iff.1 h).1
theorem BoolsAt.ext {w w' : World} {b : Nat} {S : List Bool} (h : BoolsAt w b S) (hx : Ext w w') : BoolsAt w' b S := (hx.block h.lt).trans h
theorem BoolsAt.cell {w : World} {b : Nat} {S : List Bool} (h : BoolsAt w b S) (k : Nat) (hk : k < S.length) : w.cell? ⟨b, k, none⟩ = some (.bool S[k]) ∧ w.frozen? ⟨b, k, none⟩ = false := by
  have h1 := (cells_at h).1 k (.bool S[k]) (by simp [hk])
  exact ⟨h1, (cells_at h).2 k⟩
theorem BoolsAt.set {w : World} {b : Nat} {S : List Bool} (h : BoolsAt w b S) (k : Nat) (x : Bool) : BoolsAt (w.setCell ⟨b, k, none⟩ (.bool x)) b (S.set k x) := by
  have := heap_setCell_at (i := k) h (.bool x)
  unfold BoolsAt
  rw [this]
  congr 2
  apply Array.toList_inj.1
  simp [List.map_set]
theorem BoolsAt.kept {w w' : World} {b : Nat} {S : List Bool} {row : Option Nat} (h : BoolsAt w b S) (hg : w.grownBy w' row) (hne : some b ≠ row) : BoolsAt w' b S := (hg.block b h.lt hne).trans h
theorem made_bools (n : Nat) : madeCells #[.bool false] n = ((List.replicate n false).map Value.bool).toArray := by
  apply Array.toList_inj.1
  apply List.ext_getElem
  · simp [size_madeCells]
  · intro i h1 h2
    simp [madeCells, Nat.mod_one]
theorem info_bool : (Tryz.prog.info? 4).map (fun i => (i.zero, i.size, i.bytes)) = some (some (.bool false), 1, 1) := by kernel_rfl
theorem make_bools (n : Nat) (hn : n ≤ 1000000) (w : World) : (Instr.makeSlice 48 (.int .i64 n) (.int .i64 n)).run Tryz.prog w = .ok (.slice (some ⟨w.heap.size, 0, none⟩) n n) (w.alloc (.cells ((List.replicate n false).map Value.bool).toArray 4)) := by
  obtain ⟨i0, hi, hz0, hz1, hz2⟩ := info_parts info_bool
  have h := run_makeSlice (P := Tryz.prog) (w := w) 48 4 i0 _ Tryz.underlying48 hi hz0 .i64 .i64 (n : Int) (n : Int) (by omega) (Int.le_refl _) (by rw [hz1]; simp; omega) (by rw [hz2]; omega) (by omega)
  rw [h, hz1]
  simp only [Int.toNat_natCast, Nat.mul_one]
  rw [show (Value.bool false).cells = #[.bool false] from rfl, made_bools]
theorem BoolsAt.made (w : World) (n : Nat) : BoolsAt (w.alloc (.cells ((List.replicate n false).map Value.bool).toArray 4)) w.heap.size (List.replicate n false) := heap_new w _
/-- What a ledger's call leaves of a row. -/
theorem BoolsAt.fr {w w' : World} {b p : Nat} {v : Value} {S : List Bool} (h : BoolsAt w b S) (hf : Fr p v w w') (h1 : b ≠ p) (h2 : some b ≠ v.ownBlock) : BoolsAt w' b S := (hf.block b h.lt h1 h2).trans h
theorem bools_spell (n : Nat) : ((List.replicate n false).map Value.bool).toArray = Array.replicate n (Value.bool false) := by
  apply Array.toList_inj.1; simp
theorem make_bools' (n : Nat) (hn : n ≤ 1000000) (w : World) : (Instr.makeSlice 48 (.int .i64 n) (.int .i64 n)).run Tryz.prog w = .ok (.slice (some ⟨w.heap.size, 0, none⟩) n n) (w.alloc (.cells (Array.replicate n (.bool false)) 4)) := by
  rw [make_bools n hn w, bools_spell]
theorem BoolsAt.made' (w : World) (n : Nat) : BoolsAt (w.alloc (.cells (Array.replicate n (.bool false)) 4)) w.heap.size (List.replicate n false) := by
  rw [← bools_spell]; exact heap_new w _
end Go.Proofs.YtehmgeodpjmfaaaGreatDoor
