/- object.Name's Check at the kinds Out and Counter. -/
import Derived.Laws.Rows
import Derived.BigGuard
import Derived.Laws.CopyOwn
import Derived.Deep.DeepCutAuto
import Derived.Test.YtehmgeodpjmfaaaGreatDoorObjCmp
namespace Go.Proofs.YtehmgeodpjmfaaaGreatDoor
open Go.RowKit

def usesV : Array Value := #[.string { data := #[] }, .bool false, .bool false, .bool false, .int .i64 0,
  .string { data := #[112, 114, 111, 99, 101, 115, 115] }, .bool true, .bool false, .bool false, .int .i64 (-1),
  .string { data := #[114, 101, 103, 105, 115, 116, 101, 114, 115] }, .bool true, .bool false, .bool false, .int .i64 (-1),
  .string { data := #[112, 97, 103, 101] }, .bool true, .bool false, .bool false, .int .i64 63,
  .string { data := #[116, 97, 98, 108, 101] }, .bool true, .bool false, .bool false, .int .i64 (-1),
  .string { data := #[99, 111, 117, 110, 116, 101, 114] }, .bool true, .bool false, .bool false, .int .i64 (-1),
  .string { data := #[112, 101, 110, 100, 105, 110, 103] }, .bool true, .bool false, .bool false, .int .i64 (-1),
  .string { data := #[110, 111, 100, 101] }, .bool true, .bool true, .bool false, .int .i64 (-1),
  .string { data := #[98, 108, 111, 99, 107] }, .bool true, .bool true, .bool false, .int .i64 63,
  .string { data := #[101, 110, 116, 114, 121] }, .bool true, .bool true, .bool true, .int .i64 (-1),
  .string { data := #[108, 105, 115, 116, 105, 110, 103] }, .bool true, .bool true, .bool false, .int .i64 (-1),
  .string { data := #[112, 105, 112, 101] }, .bool true, .bool true, .bool false, .int .i64 (-1),
  .string { data := #[108, 111, 99, 107] }, .bool true, .bool true, .bool false, .int .i64 (-1),
  .string { data := #[116, 101, 114, 109, 105, 110, 97, 108] }, .bool false, .bool true, .bool false, .int .i64 (-1),
  .string { data := #[97, 99, 99, 111, 117, 110, 116] }, .bool false, .bool false, .bool true, .int .i64 (-1),
  .string { data := #[99, 108, 111, 99, 107] }, .bool false, .bool false, .bool false, .int .i64 (-1),
  .string { data := #[112, 111, 114, 116] }, .bool false, .bool true, .bool false, .int .i64 (-1),
  .string { data := #[98, 111, 120] }, .bool false, .bool false, .bool true, .int .i64 (-1),
  .string { data := #[111, 117, 116] }, .bool true, .bool true, .bool false, .int .i64 1073741824,
  .string { data := #[115, 104, 101, 108, 108] }, .bool true, .bool false, .bool false, .int .i64 (-1),
  .string { data := #[101, 112, 111, 99, 104] }, .bool false, .bool false, .bool false, .int .i64 (-1)]

set_option maxHeartbeats 8000000 in
set_option maxRecDepth 100000 in
theorem uses_any (w : World) : Calls Tryz.prog 83 #[] w fun e w' => e = .returned (.agg usesV) ∧ Ext w w' := by
  go_enter Tryz.func83, Tryz.ntmps83
  go_wp2_with (refine wpList_store_row rfl 172 (.tmp 0) (.tmp 22) rfl w.heap.size usesV rfl rfl 172 _ (heap_new _ _) (by as_aux_lemma => kernel_rfl) (by as_aux_lemma => kernel_rfl) (by as_aux_lemma => kernel_rfl) ?_; generalize hW : World.setRow _ _ usesV = W1)
  refine bodyPost_ret (results_cell_row rfl _ _ w.heap.size 172 usesV (0, 0) _ rfl ?_ Tryz.underlying172 rfl (by as_aux_lemma => kernel_rfl)) rfl ⟨rfl, ?_⟩
  · rw [← hW]
    exact setRow_heap _ _ _ _ _ _ (heap_new _ _)
  · rw [← hW]
    exact below_setRow (Below.alloc (Below.refl _ w) (Nat.le_refl _) _) (Nat.le_refl _) _

theorem number_any (n : Int) (w : World) (h0 : 0 ≤ n) (h1 : n ≤ 1073741824) : Calls Tryz.prog 84 #[.int .i64 n] w fun e w' => e = .returned (.bool true) ∧ w = w' := by
  go_enter Tryz.func84, Tryz.ntmps84
  go_wp2
  go_ret
  exact ⟨rfl, rfl⟩

end Go.Proofs.YtehmgeodpjmfaaaGreatDoor
