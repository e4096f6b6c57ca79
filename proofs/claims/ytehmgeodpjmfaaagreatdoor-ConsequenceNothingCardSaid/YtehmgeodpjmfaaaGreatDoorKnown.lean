/- law 50: known. -/
import Derived.Test.YtehmgeodpjmfaaaGreatDoorKnownPure
import Derived.Test.YtehmgeodpjmfaaaGreatDoorBuild
import Derived.Test.YtehmgeodpjmfaaaGreatDoorCompare
namespace Go.Proofs.YtehmgeodpjmfaaaGreatDoor
open Go.RowKit

theorem item_one (w : World) (x : ItemS) (o : Obj) (ho : o = .cells (encI5 x).toArray 84) : Rd (w.alloc o) 5 encI5 (.slice (some ⟨w.heap.size, 0, none⟩) 1 1) [x] := by
  subst ho
  refine ⟨by simp, _, 1, rfl, fun _ => ⟨_, 0, rfl, by simp, fun j hj i u hu => ?_⟩⟩
  obtain rfl : j = 0 := by simpa using hj
  simp only [List.getElem_cons_zero] at hu
  have hi : i < (encI5 x).toArray.size := by
    have := (List.getElem?_eq_some_iff.1 hu).1
    simpa using this
  have := (cells_at (heap_new w (.cells (encI5 x).toArray 84))).1 i u (by simpa using hu)
  simpa using this
theorem entI_ok (x : ItemS) : EntOk (entI x) := by
  have h1 := whoN_size x.who
  have h2 := cut20_size x.text
  refine ⟨by show (whoN x.who).size ≤ _; omega, ?_, ?_, ?_, by show (⟨#[116]⟩ : ByteArray).size ≤ _; decide, by show (cut20 x.text).size ≤ _; omega, ?_⟩
  · show I64 ((x.num % 4 : Nat) : Int); unfold I64; omega
  · show I64 ((x.tick % 8 : Nat) : Int); unfold I64; omega
  · show I64 (1 + ((x.chan % 4 : Nat) : Int)); unfold I64; omega
  · show I64 5; unfold I64; omega
theorem ledB_mem : ∀ (l : List ItemS) (i : Nat) (y : LeftS), y ∈ ledB i l → ∃ x ∈ l, y.ent = entI x
  | [], _, _, h => by simp [ledB] at h
  | x :: l, i, y, h => by
    rw [ledB, List.mem_cons] at h
    rcases h with rfl | h
    · exact ⟨x, by simp, rfl⟩
    · obtain ⟨z, hz, e⟩ := ledB_mem l (i + 1) y h
      exact ⟨z, by simp [hz], e⟩
theorem get_stB (xs : List ItemS) (n : NameS) (v : ByteArray) (h : (stB xs).get n = some v) : ∃ x, v = valOf x := by
  obtain ⟨m, hm⟩ := get_mem _ _ _ h
  obtain ⟨x, _, e⟩ := stB_mem xs _ hm
  cases e
  exact ⟨x, rfl⟩
theorem allL_ok (xs : List ItemS) : ∀ e ∈ allL (stB xs), EntOk e := fun e he => by
  unfold allL at he
  obtain ⟨n, hn, he⟩ := List.mem_filterMap.1 he
  obtain ⟨y, hy, rfl⟩ := List.mem_map.1 (List.mem_filter.1 hn).1
  obtain ⟨x, hx, rfl⟩ := stB_mem xs y hy
  unfold entOf BT.val at he
  cases hg : (stB xs).get (nameOf x) with
  | none =>
    rw [hg] at he
    simp only [Option.getD_none] at he
    rw [if_neg (by decide)] at he
    cases he
  | some v =>
    obtain ⟨z, rfl⟩ := get_stB xs _ _ hg
    rw [hg, Option.getD_some, valOf_list, decL_outL (itemOut_chk z), if_pos rfl] at he
    cases he
    have h1 := entI_ok x
    have h2 := entI_ok z
    exact ⟨h1.1, h1.2.1, h1.2.2.1, h2.2.2.2⟩
/-- Compare at what build makes. -/
theorem cmp_built (now left : List ItemS) (q : Option Addr) (p : Nat) (v : Value) (w : World) (hS : IsS w q (stB (now.take 20))) (hL : LAt w p (ledB 0 (left.take 20)) v) :
    Calls Tryz.prog 12 #[.pointer (some ⟨p, 0, none⟩), .pointer q] w fun e w' => ∃ u, e = .returned (.tuple #[u, .int .i64 0]) ∧ Rd w' 14 encC u (compareL (allL (stB (now.take 20))) (ledB 0 (left.take 20))) ∧ Ext w w' := by
  have h20 : (now.take 20).length ≤ 20 := List.length_take_le _ _
  have h21 : (left.take 20).length ≤ 20 := List.length_take_le _ _
  exact compare_any _ q p _ v w hS (stB_ok _) (stB_val _) (by have := (stB_size (now.take 20)).1; omega) hL (by rw [ledB_len]; omega) (allL_ok _) (fun x hx => by
    obtain ⟨z, _, e⟩ := ledB_mem _ _ _ hx
    rw [e]; exact entI_ok z)
end Go.Proofs.YtehmgeodpjmfaaaGreatDoor
