/- law 50: names, out. -/
import Derived.StillTailTactics
import Derived.Test.YtehmgeodpjmfaaaGreatDoorCmpPure
namespace Go.Proofs.YtehmgeodpjmfaaaGreatDoor
open Go.RowKit

structure ItemS where
  who : Nat
  num : Nat
  tick : Nat
  chan : Nat
  text : ByteArray
def itemV (x : ItemS) : Value := .agg #[.int .u8 x.who, .int .u8 x.num, .int .u8 x.tick, .int .u8 x.chan, .string x.text]
def encI5 (x : ItemS) : List Value := [.int .u8 x.who, .int .u8 x.num, .int .u8 x.tick, .int .u8 x.chan, .string x.text]
def ItemOk (x : ItemS) : Prop := x.who < 256 ∧ x.num < 256 ∧ x.tick < 256 ∧ x.chan < 256 ∧ x.text.size ≤ 9223372036854775807
def cut20 (s : ByteArray) : ByteArray := s.extract 0 (min s.size 20)
def itemOut (x : ItemS) : OutS := ⟨1 + ((x.chan % 4 : Nat) : Int), ⟨#[116]⟩, cut20 x.text, 5⟩
def nm1 : ByteArray := ⟨#[49]⟩
def nm12 : ByteArray := ⟨#[49, 46, 50]⟩
def nm3 : ByteArray := ⟨#[51]⟩
def namesV : Value := .agg #[.string ⟨#[49]⟩, .string ⟨#[49, 46, 50]⟩, .string ⟨#[51]⟩]
def whoN (k : Nat) : ByteArray := if k % 3 = 0 then nm1 else if k % 3 = 1 then nm12 else nm3
theorem names_any (w : World) : Calls Tryz.prog 23 #[] w fun e w' => e = .returned namesV ∧ Ext w w' := by
  go_enter Tryz.func23, Tryz.ntmps23
  go_wp2
  exact bodyPost_ret (v := namesV) (by simp [results, Tryz.results23, go_sem, namesV]) rfl ⟨rfl, by repeat (first | exact Ext.refl _ | refine Ext.setCell ?_ (Nat.le_refl _) _ | refine Ext.alloc ?_ _)⟩

set_option maxHeartbeats 4000000 in
set_option maxRecDepth 100000 in
theorem out_any (x : ItemS) (hx : ItemOk x) (w : World) : Calls Tryz.prog 29 #[itemV x] w fun e w' => e = .returned (outV (itemOut x)) ∧ Ext w w' := by
  obtain ⟨h1, h2, h3, h4, h5⟩ := hx
  have HC : Hid (cut20 x.text = x.text.extract 0 (min x.text.size 20)) := Lib.hid rfl
  simp only [itemV, outV, itemOut]
  generalize cut20 x.text = cx at HC ⊢
  obtain ⟨wh, nu, ti, ch, tx⟩ := x
  simp only at *
  have hb : (0 : Int) ≤ (ch : Int) := by omega
  have hb2 : (ch : Int) ≤ 255 := by omega
  have hu := Tryz.underlying9
  have hsl : ∀ W, (Instr.slice 9 (.string tx) none (some (.int .i64 (min (tx.size : Int) 20))) none).run Tryz.prog W = .ok (.string cx) W := fun W => by
    rw [HC.out]
    have h1 : min (tx.size : Int) 20 ≤ (tx.size : Int) := by omega
    have h0 : 0 ≤ min (tx.size : Int) 20 := by omega
    have h3 : (min (tx.size : Int) 20).toNat = min tx.size 20 := by omega
    simp [h0, h1, h3, Instr.slice, run_underlying hu, Instr.sliceBounds, Instr.sliceBound, asIntOf]
  have q1 : (ch : Int).tmod 4 = ((ch % 4 : Nat) : Int) := by rw [Int.tmod_eq_emod_of_nonneg (by omega)]; omega
  have q2 : IntKind.i64.wrap ((ch % 4 : Nat) : Int) = ((ch % 4 : Nat) : Int) := IntWalk.i64_in _ (by omega)
  have q3 : IntKind.i64.wrap (1 + ((ch % 4 : Nat) : Int)) = 1 + ((ch % 4 : Nat) : Int) := IntWalk.i64_in _ (by omega)
  generalize ((ch % 4 : Nat) : Int) = c4 at q1 q2 q3 ⊢
  go_enter Tryz.func29, Tryz.ntmps29
  go_wp2_with fail
  obtain ⟨W1, hW1⟩ : ∃ W1, (w.alloc (.cells #[.int .u8 wh, .int .u8 nu, .int .u8 ti, .int .u8 ch, .string tx] 84)).alloc (.cells #[.int .i64 0, .string ⟨#[]⟩, .string ⟨#[]⟩, .int .i64 0] 35) = W1 := ⟨_, rfl⟩
  have hB : Ext w W1 := by rw [← hW1]; exact ((Ext.refl w).alloc _).alloc _
  have hb1 : W1.heap[w.heap.size]? = some (.cells #[.int .u8 wh, .int .u8 nu, .int .u8 ti, .int .u8 ch, .string tx] 84) := by rw [← hW1]; exact (Below.heap_alloc _ _ _ (by simp)).trans (heap_new w _)
  have hb2 : W1.heap[w.heap.size + 1]? = some (.cells #[.int .i64 0, .string ⟨#[]⟩, .string ⟨#[]⟩, .int .i64 0] 35) := by rw [← hW1]; have := heap_new (w.alloc (.cells #[.int .u8 wh, .int .u8 nu, .int .u8 ti, .int .u8 ch, .string tx] 84)) (.cells #[.int .i64 0, .string ⟨#[]⟩, .string ⟨#[]⟩, .int .i64 0] 35); rwa [show (w.alloc (.cells #[.int .u8 wh, .int .u8 nu, .int .u8 ti, .int .u8 ch, .string tx] 84)).heap.size = w.heap.size + 1 by simp] at this
  have d0 := (cells_at hb1).1 0 _ rfl
  have d1 := (cells_at hb1).1 1 _ rfl
  have d2 := (cells_at hb1).1 2 _ rfl
  have d3 := (cells_at hb1).1 3 _ rfl
  have d4 := (cells_at hb1).1 4 _ rfl
  have e0 := (cells_at hb2).1 0 _ rfl
  have f0 := (cells_at hb2).2 0
  have e1 := (cells_at hb2).1 1 _ rfl
  have f1 := (cells_at hb2).2 1
  have e2 := (cells_at hb2).1 2 _ rfl
  have f2 := (cells_at hb2).2 2
  have e3 := (cells_at hb2).1 3 _ rfl
  have f3 := (cells_at hb2).2 3
  simp only [List.getElem_toArray, List.getElem_cons_zero, List.getElem_cons_succ] at d0 d1 d2 d3 d4 e0 e1 e2 e3
  rw [hW1]
  clear hW1
  go_still_tail 13, (by kernel_rfl)
  change wpList _ _ _ _ _ W1.drew
  have hB2 : Ext w W1.drew := hB.drew
  have hb3 : W1.drew.heap[w.heap.size + 1]? = some (.cells #[.int .i64 0, .string ⟨#[]⟩, .string ⟨#[]⟩, .int .i64 0] 35 (0, 0)) := hb2
  generalize W1.drew = W2 at hB2 hb3 ⊢
  have g0 := (cells_at hb3).1 0 _ rfl
  have k0 := (cells_at hb3).2 0
  have g1 := (cells_at hb3).1 1 _ rfl
  have k1 := (cells_at hb3).2 1
  have g2 := (cells_at hb3).1 2 _ rfl
  have k2 := (cells_at hb3).2 2
  have g3 := (cells_at hb3).1 3 _ rfl
  have k3 := (cells_at hb3).2 3
  simp only [List.getElem_toArray, List.getElem_cons_zero, List.getElem_cons_succ] at g0 g1 g2 g3
  have HZ := Lib.hid (And.intro hB2 hb3)
  clear hB2 hb3 hb1 hb2 hB d0 d1 d2 d3 d4 e0 e1 e2 e3 f0 f1 f2 f3
  go_wp2_with fail
  refine bodyPost_ret (results_cell_row rfl _ _ (w.heap.size + 1) 35 _ (0, 0) _ rfl (set4 HZ.out.2 _ _ _ _) Tryz.underlying35 rfl (by kernel_rfl)) rfl ⟨rfl, ?_⟩
  exact ((((HZ.out.1.setCell (Nat.le_succ _) _).setCell (Nat.le_succ _) _).setCell (Nat.le_succ _) _).setCell (Nat.le_succ _) _)
end Go.Proofs.YtehmgeodpjmfaaaGreatDoor
