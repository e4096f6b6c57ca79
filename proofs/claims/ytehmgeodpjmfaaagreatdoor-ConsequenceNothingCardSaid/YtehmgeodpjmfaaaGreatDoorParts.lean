/- lineage.parts: the iterator over the parts of a text, for every loop body that keeps what lay below. -/
import Derived.RangeFuncNested
import Derived.RangeFuncBox
import Derived.RangeFuncBound
import Derived.RangeFuncCalls
import Derived.RangeFuncLeaves
import Derived.Shelf.Abstract
import Derived.WalkKit
import Derived.OwnWalkIn
import Derived.TacticsInMore
import Derived.LoopNIn
import Derived.LoopIn
import Derived.Maps.AppendAt
import Derived.Lib.Strings
import Derived.Lib.IndexBytes
import Derived.Test.YtehmgeodpjmfaaaGreatDoorAtoi
namespace Go.Proofs.YtehmgeodpjmfaaaGreatDoor
open Go.RowKit
attribute [local go_sem] Oper.semAt_some

/-- What a round that goes on keeps: one block, and every block of a type. -/
def KpT (Bs : Nat) (T : TypeId) (W W' : World) : Prop := W'.heap[Bs]? = W.heap[Bs]? ∧ W.heap.size ≤ W'.heap.size ∧ ∀ (b : Nat) (c : Array Value) (f : Nat × Nat), W.heap[b]? = some (Obj.cells c T f) → W'.heap[b]? = some (Obj.cells c T f)
theorem KpT.refl (n₀ : Nat) (T : TypeId) (W : World) : KpT n₀ T W W := ⟨rfl, Nat.le_refl _, fun _ _ _ h => h⟩
theorem KpT.trans {n₀ : Nat} {T : TypeId} {A B C : World} (h : KpT n₀ T A B) (k : KpT n₀ T B C) : KpT n₀ T A C := ⟨k.1.trans h.1, Nat.le_trans h.2.1 k.2.1, fun b c f e => k.2.2 b c f (h.2.2 b c f e)⟩
theorem KpT.putObj {n₀ : Nat} {T : TypeId} {w : World} (hn : n₀ < w.heap.size) (W : World) (l : Nat) (o o' : Obj) (hl : w.heap.size ≤ l) (h : W.heap[l]? = some o) (hc : o.isCells = false) (_ : o.isWalk = false) : KpT n₀ T W (W.putObj l o') :=
  ⟨World.putObj_heap_other (by omega), by simp, fun b c f e => by
    have : b ≠ l := fun e' => by subst e'; rw [e] at h; cases h; cases hc
    rw [World.putObj_heap_other this]; exact e⟩
theorem KpT.of_ext {Bs : Nat} {T : TypeId} {W W' : World} (hB : Bs < W.heap.size) (h : Ext W W') : KpT Bs T W W' :=
  ⟨h.block hB, h.size, fun _b _c _f e => (h.block (Array.getElem?_eq_some_iff.1 e).1).trans e⟩

def encPart (p : Part) : Value := .agg #[.int .i64 p.ord, .int .i64 p.at_, .int .i64 p.e]

theorem grownBy_of_ext {w w' : World} (h : Ext w w') : w.grownBy w' none := ⟨Below.os h, Below.tape h, Below.output h, h.size, fun _k hk _ => h.block hk⟩

theorem KpT.cell_of {n₀ : Nat} {T : TypeId} {W W' : World} (h : KpT n₀ T W W') {b : Nat} {c : Array Value} {f : Nat × Nat} (hb : W.heap[b]? = some (Obj.cells c T f)) (i : Nat) (v : Value) (hi : c[i]? = some v) : W'.cell? ⟨b, i, none⟩ = some v := by
  simp [World.cell?, h.2.2 b c f hb, hi]
theorem cells_at {w : World} {b : Nat} {c : Array Value} {T : TypeId} (h : w.heap[b]? = some (Obj.cells c T (0, 0))) : (∀ (i : Nat) v, c[i]? = some v → w.cell? ⟨b, i, none⟩ = some v) ∧ ∀ i, w.frozen? ⟨b, i, none⟩ = false :=
  ⟨fun i v hi => by simp [World.cell?, h, hi], fun i => by simp [World.frozen?, h]⟩
theorem heap_new (w : World) (o : Obj) : (w.alloc o).heap[w.heap.size]? = some o := World.alloc_heap_new w o
theorem heap_setCell_at {w : World} {b i : Nat} {c : Array Value} {T : TypeId} {f : Nat × Nat} (h : w.heap[b]? = some (Obj.cells c T f)) (v : Value) : (w.setCell ⟨b, i, none⟩ v).heap[b]? = some (Obj.cells (c.setIfInBounds i v) T f) := by
  show (w.heap.modify b _)[b]? = _
  rw [Array.getElem?_modify, if_pos rfl, h]
  rfl

theorem parts_head {s : ByteArray} {p d k : Nat} {N : Int} {rest : List UInt8}
    (h : (rest.drop d = [] → partsL (8 - k) p rest = [⟨N, p, 0⟩]) ∧ (∀ c r, rest.drop d = c :: r → c ≠ 46 → partsL (8 - k) p rest = [⟨N, p, 0⟩, ⟨0, (p + d : Nat), 6⟩]) ∧ (∀ r, rest.drop d = 46 :: r → partsL (8 - k) p rest = ⟨N, p, 0⟩ :: partsL (7 - k) (p + d + 1) r))
    (hd : ∀ h : p + d < s.size, ∃ r, rest.drop d = s[p + d] :: r ∧ r = s.data.toList.drop (p + d + 1)) (hp : p + d < s.size ∨ rest.drop d = []) : ∃ r, partsL (8 - k) p rest = ⟨N, p, 0⟩ :: r := by
  rcases hp with hp | hp
  · obtain ⟨r, hr, _⟩ := hd hp
    by_cases hc : s[p + d] = 46
    · exact ⟨_, h.2.2 r (by rw [hr, hc])⟩
    · exact ⟨_, h.2.1 _ r hr hc⟩
  · exact ⟨_, h.1 hp⟩

set_option maxHeartbeats 8000000 in
set_option maxRecDepth 100000 in
theorem parts1_in (n : Nat) (hn : 1 ≤ n) (l Bs : Nat) (s : ByteArray) (hs : s.size ≤ 9223372036854775000) (J Jx : List Part → World → Prop)
    (W : World) (hJa : AbidesFrom W.heap.size J)
    (hY : ∀ pre x W, J pre W → pre.length < 10 → YieldAt Fence.wide (n - 1) Tryz.prog l #[encPart x] W fun e W' =>
      (e = .returned (.bool true) ∧ J (pre ++ [x]) W' ∧ KpT Bs 220 W W') ∨ (e = .returned (.bool false) ∧ Jx (pre ++ [x]) W'))
    (hc : W.cell? ⟨Bs, 0, none⟩ = some (.string s)) (h0 : J [] W) (hs0 : 0 < s.size) :
    CallsIn Fence.wide n Tryz.prog 141 #[.func (.yield l) #[] #[], .pointer (some ⟨Bs, 0, none⟩)] W fun e W' => (∃ v, e = .returned v) ∧
      ((∃ ys, ys = partsOf s.data.toList ∧ J ys W') ∨ (∃ pre, pre <+: partsOf s.data.toList ∧ Jx pre W')) := by
  have hne0 : s.data.toList ≠ [] := fun e => by have : s.data.toList.length = s.size := rfl; rw [e] at this; simp at this; omega
  have hne : s.toList.isEmpty = false := by
    rw [Lib.toList_data]
    cases h : s.data.toList with
    | nil => exact absurd h hne0
    | cons _ _ => rfl
  refine callsIn_of_wp Tryz.func141 rfl trivial ?_ rfl
  simp only [Tryz.ntmps141, List.size_toArray, List.length_cons, List.length_nil, Nat.reduceAdd, Nat.reduceSub, Array.replicate_succ, Array.replicate_zero, List.push_toArray, List.append_toArray, List.nil_append, List.cons_append]
  gi_wp2
  gi_loopw [3, 4] (fun at_ n wr => ∃ (p k : Nat) (pre : List Part), at_ = .int .i64 p ∧ n = .int .i64 k ∧ k ≤ 8 ∧ p ≤ s.size ∧ Hid (partsOf s.data.toList = pre ++ partsL (8 - k) p (s.data.toList.drop p)) ∧ pre.length = k ∧ J pre wr ∧ wr.cell? ⟨Bs, 0, none⟩ = some (.string s) ∧ W.heap.size ≤ wr.heap.size)
    (fun _ n _ => 9 - (intOf n).toNat)
  case atStart => exact ⟨0, 0, [], rfl, rfl, by omega, by omega, (show partsOf s.data.toList = _ by unfold partsOf; rw [if_neg hne0]; rfl), rfl, h0, hc, Nat.le_refl _⟩
  case round =>
    obtain ⟨p, k, pre, rfl, rfl, hk, hp, hL, hlen, hJ, hcr, hsz⟩ := hrel
    have hcA : ∀ o, (wr.alloc o).cell? ⟨Bs, 0, none⟩ = some (.string s) := fun o => ((Ext.refl wr).alloc o).cell_some hcr
    have HJ := Lib.hid hJ
    have HY := Lib.hid hY
    have HJa := Lib.hid hJa
    clear hJ hY hJa h0
    gi_wp2
    obtain ⟨rest, hrest⟩ : ∃ rest, rest = s.data.toList.drop p := ⟨_, rfl⟩
    have hrl : rest.length = s.size - p := by rw [hrest, List.length_drop]; rfl
    have hat : ∀ j (h : p + j < s.size), rest[j]? = some s[p + j] := fun j h => by rw [hrest, List.getElem?_drop]; exact List.getElem?_eq_getElem (by simpa using h)
    have hL2 : partsOf s.data.toList = pre ++ partsL (8 - k) p rest := by rw [hrest]; exact hL
    have hdl := digs_le rest
    obtain ⟨d, hd⟩ : ∃ d, d = digs rest := ⟨_, rfl⟩
    rw [← hd] at hdl
    have HD := Lib.hid hd
    have HR := Lib.hid hrest
    have HRL := Lib.hid hrl
    have HAT := Lib.hid hat
    have HL2 := Lib.hid hL2
    have hdn : p + d ≤ s.size := by omega
    clear hrest hrl hat hL2 hL hd hdl
    rcases (show (k = 8) ∨ (k < 8 ∧ p = s.size) ∨ (k < 8 ∧ p < s.size) from by omega) with h8 | ⟨h8, hps⟩ | ⟨h8, hps⟩
    · -- too many
      have hk8 : ((k : Int) == 8) = true := by simp; omega
      have hfin : partsL (8 - k) p rest = [⟨0, p, 9⟩] := by subst h8; rfl
      have HF := Lib.hid hfin
      obtain ⟨fn, tmps, assign, body, hy, hR⟩ := HY.out pre ⟨0, p, 9⟩ (wr.alloc (.cells #[.int .i64 0, .int .i64 p, .int .i64 9] 220)) (HJa.out pre wr _ none HJ.out (World.grownBy_alloc _ _ _) (fun r e => by cases e)) (by omega)
      simp only [encPart] at hy
      have HR2 := Lib.hid hR
      clear hR hfin h8
      gi_loop [6] (fun e => ∃ j : Nat, e = .int .i64 j ∧ j ≤ d) (fun e => s.size - (intOf e).toNat)
      case atStart => exact ⟨0, rfl, by omega⟩
      case round =>
        obtain ⟨j, rfl, hj⟩ := hrel
        gi_wp2
        · have hlt : (p : Int) + (j : Int) < (s.size : Int) := by assumption
          have h48 : (48 : Int) ≤ (s[p + j].toNat : Int) := by assumption
          have h57 : (s[p + j].toNat : Int) ≤ 57 := by assumption
          have hj' : j + 1 ≤ d := by rw [HD.out]; exact digs_step _ _ _ (by rw [← HD.out]; exact hj) (HAT.out j (by omega)) (by simp [isDig]; omega)
          go_round
          case rel => exact ⟨j + 1, by go_num, hj'⟩
          case measure => simp [intOf]; omega
        all_goals
          skip
          refine HR2.out.mono ?_
          rintro e W' (⟨rfl, hJ2, hk2⟩ | ⟨rfl, hJ2⟩)
          · have hc2 : W'.cell? ⟨wr.heap.size, 2, none⟩ = some (.int .i64 9) := hk2.cell_of (heap_new _ _) 2 _ rfl
            gi_wp2
            refine bodyPost_ret (results_none rfl _ _ _) rfl ?_
            exact ⟨⟨_, rfl⟩, .inl ⟨pre ++ [⟨0, p, 9⟩], by rw [HL2.out, HF.out], hJ2⟩⟩
          · gi_wp2
            refine bodyPost_ret (results_none rfl _ _ _) rfl ?_
            exact ⟨⟨_, rfl⟩, .inr ⟨pre ++ [⟨0, p, 9⟩], ⟨[], by rw [HL2.out, HF.out]; simp⟩, hJ2⟩⟩
    · -- nothing left
      obtain rfl := hps
      have hk8 : ((k : Int) == 8) = false := by simp; omega
      have hfin : partsL (8 - k) s.size rest = [⟨0, s.size, 4⟩] := by rw [show 8 - k = (7 - k) + 1 from by omega]; unfold partsL; rw [if_pos (List.eq_nil_of_length_eq_zero (by rw [HRL.out]; omega))]
      have HF := Lib.hid hfin
      obtain ⟨fn, tmps, assign, body, hy, hR⟩ := HY.out pre ⟨0, s.size, 4⟩ (wr.alloc (.cells #[.int .i64 0, .int .i64 s.size, .int .i64 4] 220)) (HJa.out pre wr _ none HJ.out (World.grownBy_alloc _ _ _) (fun r e => by cases e)) (by omega)
      simp only [encPart] at hy
      have HR2 := Lib.hid hR
      clear hR hfin h8
      gi_loop [6] (fun e => ∃ j : Nat, e = .int .i64 j ∧ j ≤ d) (fun e => s.size - (intOf e).toNat)
      case atStart => exact ⟨0, rfl, by omega⟩
      case round =>
        obtain ⟨j, rfl, hj⟩ := hrel
        gi_wp2
        all_goals
          skip
          refine HR2.out.mono ?_
          rintro e W' (⟨rfl, hJ2, hk2⟩ | ⟨rfl, hJ2⟩)
          · have hc2 : W'.cell? ⟨wr.heap.size, 2, none⟩ = some (.int .i64 4) := hk2.cell_of (heap_new _ _) 2 _ rfl
            gi_wp2
            refine bodyPost_ret (results_none rfl _ _ _) rfl ?_
            exact ⟨⟨_, rfl⟩, .inl ⟨pre ++ [⟨0, s.size, 4⟩], by rw [HL2.out, HF.out], hJ2⟩⟩
          · gi_wp2
            refine bodyPost_ret (results_none rfl _ _ _) rfl ?_
            exact ⟨⟨_, rfl⟩, .inr ⟨pre ++ [⟨0, s.size, 4⟩], ⟨[], by rw [HL2.out, HF.out]; simp⟩, hJ2⟩⟩
    have hk8 : ((k : Int) == 8) = false := by simp; omega
    have hpz : ((p : Int) == (s.size : Int)) = false := by simp; omega
    have hne2 : rest ≠ [] := fun e => by have := HRL.out; rw [e] at this; simp at this; omega
    have hhd : rest.headD 0 = s[p] := by
      have := HAT.out 0 (by omega)
      cases rest with
      | nil => exact absurd rfl hne2
      | cons c r => simpa using this
    have HP : Hid (partsL (8 - k) p rest = partsL ((7 - k) + 1) p rest) := by rw [show 8 - k = (7 - k) + 1 from by omega]; rfl
    have HN := Lib.hid hne2
    have HH := Lib.hid hhd
    clear hne2 hhd
    rcases (show (d = 0) ∨ (0 < d ∧ s[p] = 48) ∨ (0 < d ∧ s[p] ≠ 48 ∧ 6 < d) ∨ (0 < d ∧ s[p] ≠ 48 ∧ d ≤ 6) from by
      by_cases a : d = 0
      · exact .inl a
      · by_cases b : s[p] = 48
        · exact .inr (.inl ⟨by omega, b⟩)
        · by_cases c : 6 < d
          · exact .inr (.inr (.inl ⟨by omega, b, c⟩))
          · exact .inr (.inr (.inr ⟨by omega, b, by omega⟩))) with hd0 | ⟨hd0, hz⟩ | ⟨hd0, hz, h6⟩ | ⟨hd0, hz, h6⟩
    · -- no digit
      have hdb : ((d : Int) == 0) = true := by simp; omega
      have hfin : partsL (8 - k) p rest = [⟨0, p, 6⟩] := by rw [HP.out]; unfold partsL; rw [if_neg HN.out, if_pos (by rw [← HD.out]; exact hd0)]
      have HF := Lib.hid hfin
      obtain ⟨fn, tmps, assign, body, hy, hR⟩ := HY.out pre ⟨0, p, 6⟩ (wr.alloc (.cells #[.int .i64 0, .int .i64 p, .int .i64 6] 220)) (HJa.out pre wr _ none HJ.out (World.grownBy_alloc _ _ _) (fun r e => by cases e)) (by omega)
      simp only [encPart] at hy
      have HR2 := Lib.hid hR
      clear hR hfin hd0
      gi_loop [6] (fun e => ∃ j : Nat, e = .int .i64 j ∧ j ≤ d) (fun e => s.size - (intOf e).toNat)
      case atStart => exact ⟨0, rfl, by omega⟩
      case round =>
        obtain ⟨j, rfl, hj⟩ := hrel
        by_cases hA : ∃ h : p + j < s.size, isDig s[p + j] = true
        · obtain ⟨hlt, hdg⟩ := hA
          have hj' : j + 1 ≤ d := by rw [HD.out]; exact digs_step _ _ _ (by rw [← HD.out]; exact hj) (HAT.out j hlt) hdg
          have hi1 : (48 : Int) ≤ (s[p + j].toNat : Int) := by simp [isDig] at hdg; omega
          have hi2 : (s[p + j].toNat : Int) ≤ 57 := by simp [isDig] at hdg; omega
          clear hdg
          gi_wp2
          go_round
          case rel => exact ⟨j + 1, by go_num, hj'⟩
          case measure => simp [intOf]; omega
        obtain rfl : j = d := by
          by_cases hlt : p + j < s.size
          · have hnd : isDig s[p + j] = false := by
              cases h : isDig s[p + j] with
              | false => rfl
              | true => exact absurd ⟨hlt, h⟩ hA
            rw [HD.out]; exact (digs_stop _ _ _ (by rw [← HD.out]; exact hj) (HAT.out j hlt) hnd).symm
          · rw [HD.out]; exact (digs_end _ _ (by rw [← HD.out]; exact hj) (by rw [HRL.out]; omega)).symm
        rcases (show ((s.size : Int) ≤ (p : Int) + (j : Int)) ∨ ((p : Int) + (j : Int) < (s.size : Int) ∧ ∃ h : p + j < s.size, (s[p + j].toNat : Int) < 48 ∨ 57 < (s[p + j].toNat : Int)) from by
          by_cases hlt : p + j < s.size
          · refine .inr ⟨by omega, hlt, ?_⟩
            by_cases h48 : (s[p + j].toNat : Int) < 48
            · exact .inl h48
            · by_cases h57 : 57 < (s[p + j].toNat : Int)
              · exact .inr h57
              · exact absurd ⟨hlt, by simp [isDig]; omega⟩ hA
          · exact .inl (by omega)) with h1 | ⟨h1, h2, h3 | h3⟩
        all_goals
          clear hA
          gi_wp2
          refine HR2.out.mono ?_
          rintro e W' (⟨rfl, hJ2, hk2⟩ | ⟨rfl, hJ2⟩)
          · have hc2 : W'.cell? ⟨wr.heap.size, 2, none⟩ = some (.int .i64 6) := hk2.cell_of (heap_new _ _) 2 _ rfl
            gi_wp2
            refine bodyPost_ret (results_none rfl _ _ _) rfl ?_
            exact ⟨⟨_, rfl⟩, .inl ⟨pre ++ [⟨0, p, 6⟩], by rw [HL2.out, HF.out], hJ2⟩⟩
          · gi_wp2
            refine bodyPost_ret (results_none rfl _ _ _) rfl ?_
            exact ⟨⟨_, rfl⟩, .inr ⟨pre ++ [⟨0, p, 6⟩], ⟨[], by rw [HL2.out, HF.out]; simp⟩, hJ2⟩⟩
    · -- a zero ahead
      have hdb : ((d : Int) == 0) = false := by simp; omega
      have hzb : ((s[p].toNat : Int) == 48) = true := by rw [hz]; rfl
      have hfin : partsL (8 - k) p rest = [⟨0, p, 3⟩] := by rw [HP.out]; unfold partsL; rw [if_neg HN.out, if_neg (by rw [← HD.out]; omega), if_pos (by rw [HH.out]; exact hz)]
      have HF := Lib.hid hfin
      obtain ⟨fn, tmps, assign, body, hy, hR⟩ := HY.out pre ⟨0, p, 3⟩ (wr.alloc (.cells #[.int .i64 0, .int .i64 p, .int .i64 3] 220)) (HJa.out pre wr _ none HJ.out (World.grownBy_alloc _ _ _) (fun r e => by cases e)) (by omega)
      simp only [encPart] at hy
      have HR2 := Lib.hid hR
      clear hR hfin hz
      gi_loop [6] (fun e => ∃ j : Nat, e = .int .i64 j ∧ j ≤ d) (fun e => s.size - (intOf e).toNat)
      case atStart => exact ⟨0, rfl, by omega⟩
      case round =>
        obtain ⟨j, rfl, hj⟩ := hrel
        by_cases hA : ∃ h : p + j < s.size, isDig s[p + j] = true
        · obtain ⟨hlt, hdg⟩ := hA
          have hj' : j + 1 ≤ d := by rw [HD.out]; exact digs_step _ _ _ (by rw [← HD.out]; exact hj) (HAT.out j hlt) hdg
          have hi1 : (48 : Int) ≤ (s[p + j].toNat : Int) := by simp [isDig] at hdg; omega
          have hi2 : (s[p + j].toNat : Int) ≤ 57 := by simp [isDig] at hdg; omega
          clear hdg
          gi_wp2
          go_round
          case rel => exact ⟨j + 1, by go_num, hj'⟩
          case measure => simp [intOf]; omega
        obtain rfl : j = d := by
          by_cases hlt : p + j < s.size
          · have hnd : isDig s[p + j] = false := by
              cases h : isDig s[p + j] with
              | false => rfl
              | true => exact absurd ⟨hlt, h⟩ hA
            rw [HD.out]; exact (digs_stop _ _ _ (by rw [← HD.out]; exact hj) (HAT.out j hlt) hnd).symm
          · rw [HD.out]; exact (digs_end _ _ (by rw [← HD.out]; exact hj) (by rw [HRL.out]; omega)).symm
        rcases (show ((s.size : Int) ≤ (p : Int) + (j : Int)) ∨ ((p : Int) + (j : Int) < (s.size : Int) ∧ ∃ h : p + j < s.size, (s[p + j].toNat : Int) < 48 ∨ 57 < (s[p + j].toNat : Int)) from by
          by_cases hlt : p + j < s.size
          · refine .inr ⟨by omega, hlt, ?_⟩
            by_cases h48 : (s[p + j].toNat : Int) < 48
            · exact .inl h48
            · by_cases h57 : 57 < (s[p + j].toNat : Int)
              · exact .inr h57
              · exact absurd ⟨hlt, by simp [isDig]; omega⟩ hA
          · exact .inl (by omega)) with h1 | ⟨h1, h2, h3 | h3⟩
        all_goals
          clear hA
          gi_wp2
          refine HR2.out.mono ?_
          rintro e W' (⟨rfl, hJ2, hk2⟩ | ⟨rfl, hJ2⟩)
          · have hc2 : W'.cell? ⟨wr.heap.size, 2, none⟩ = some (.int .i64 3) := hk2.cell_of (heap_new _ _) 2 _ rfl
            gi_wp2
            refine bodyPost_ret (results_none rfl _ _ _) rfl ?_
            exact ⟨⟨_, rfl⟩, .inl ⟨pre ++ [⟨0, p, 3⟩], by rw [HL2.out, HF.out], hJ2⟩⟩
          · gi_wp2
            refine bodyPost_ret (results_none rfl _ _ _) rfl ?_
            exact ⟨⟨_, rfl⟩, .inr ⟨pre ++ [⟨0, p, 3⟩], ⟨[], by rw [HL2.out, HF.out]; simp⟩, hJ2⟩⟩
    · -- too great
      have hdb : ((d : Int) == 0) = false := by simp; omega
      have hzb : ((s[p].toNat : Int) == 48) = false := by
        have hz2 : s[p].toNat ≠ 48 := fun e => hz (UInt8.toNat_inj.1 e)
        simp; omega
      have hfin : partsL (8 - k) p rest = [⟨0, p, 2⟩] := by rw [HP.out]; unfold partsL; rw [if_neg HN.out, if_neg (by rw [← HD.out]; omega), if_neg (by rw [HH.out]; exact hz), if_pos (by rw [← HD.out]; exact h6)]
      have HF := Lib.hid hfin
      obtain ⟨fn, tmps, assign, body, hy, hR⟩ := HY.out pre ⟨0, p, 2⟩ (wr.alloc (.cells #[.int .i64 0, .int .i64 p, .int .i64 2] 220)) (HJa.out pre wr _ none HJ.out (World.grownBy_alloc _ _ _) (fun r e => by cases e)) (by omega)
      simp only [encPart] at hy
      have HR2 := Lib.hid hR
      clear hR hfin hz
      gi_loop [6] (fun e => ∃ j : Nat, e = .int .i64 j ∧ j ≤ d) (fun e => s.size - (intOf e).toNat)
      case atStart => exact ⟨0, rfl, by omega⟩
      case round =>
        obtain ⟨j, rfl, hj⟩ := hrel
        by_cases hA : ∃ h : p + j < s.size, isDig s[p + j] = true
        · obtain ⟨hlt, hdg⟩ := hA
          have hj' : j + 1 ≤ d := by rw [HD.out]; exact digs_step _ _ _ (by rw [← HD.out]; exact hj) (HAT.out j hlt) hdg
          have hi1 : (48 : Int) ≤ (s[p + j].toNat : Int) := by simp [isDig] at hdg; omega
          have hi2 : (s[p + j].toNat : Int) ≤ 57 := by simp [isDig] at hdg; omega
          clear hdg
          gi_wp2
          go_round
          case rel => exact ⟨j + 1, by go_num, hj'⟩
          case measure => simp [intOf]; omega
        obtain rfl : j = d := by
          by_cases hlt : p + j < s.size
          · have hnd : isDig s[p + j] = false := by
              cases h : isDig s[p + j] with
              | false => rfl
              | true => exact absurd ⟨hlt, h⟩ hA
            rw [HD.out]; exact (digs_stop _ _ _ (by rw [← HD.out]; exact hj) (HAT.out j hlt) hnd).symm
          · rw [HD.out]; exact (digs_end _ _ (by rw [← HD.out]; exact hj) (by rw [HRL.out]; omega)).symm
        rcases (show ((s.size : Int) ≤ (p : Int) + (j : Int)) ∨ ((p : Int) + (j : Int) < (s.size : Int) ∧ ∃ h : p + j < s.size, (s[p + j].toNat : Int) < 48 ∨ 57 < (s[p + j].toNat : Int)) from by
          by_cases hlt : p + j < s.size
          · refine .inr ⟨by omega, hlt, ?_⟩
            by_cases h48 : (s[p + j].toNat : Int) < 48
            · exact .inl h48
            · by_cases h57 : 57 < (s[p + j].toNat : Int)
              · exact .inr h57
              · exact absurd ⟨hlt, by simp [isDig]; omega⟩ hA
          · exact .inl (by omega)) with h1 | ⟨h1, h2, h3 | h3⟩
        all_goals
          clear hA
          gi_wp2
          refine HR2.out.mono ?_
          rintro e W' (⟨rfl, hJ2, hk2⟩ | ⟨rfl, hJ2⟩)
          · have hc2 : W'.cell? ⟨wr.heap.size, 2, none⟩ = some (.int .i64 2) := hk2.cell_of (heap_new _ _) 2 _ rfl
            gi_wp2
            refine bodyPost_ret (results_none rfl _ _ _) rfl ?_
            exact ⟨⟨_, rfl⟩, .inl ⟨pre ++ [⟨0, p, 2⟩], by rw [HL2.out, HF.out], hJ2⟩⟩
          · gi_wp2
            refine bodyPost_ret (results_none rfl _ _ _) rfl ?_
            exact ⟨⟨_, rfl⟩, .inr ⟨pre ++ [⟨0, p, 2⟩], ⟨[], by rw [HL2.out, HF.out]; simp⟩, hJ2⟩⟩
    · -- a number
      have hdb : ((d : Int) == 0) = false := by simp; omega
      have hzb : ((s[p].toNat : Int) == 48) = false := by
        have hz2 : s[p].toNat ≠ 48 := fun e => hz (UInt8.toNat_inj.1 e)
        simp; omega
      obtain ⟨N, hN⟩ : ∃ N, N = numL (rest.take d) := ⟨_, rfl⟩
      have hpn := partsL_num (7 - k) p rest HN.out (by rw [← HD.out]; omega) (by rw [HH.out]; exact hz) (by rw [← HD.out]; exact h6)
      rw [← HD.out, ← hN, ← HP.out] at hpn
      have hdrop : ∀ h : p + d < s.size, ∃ r, rest.drop d = s[p + d] :: r ∧ r = s.data.toList.drop (p + d + 1) := fun h => by
        refine ⟨_, ?_, rfl⟩
        rw [HR.out, List.drop_drop, List.drop_eq_getElem_cons (by simpa using h)]
        rfl
      have hdp : p + d < s.size ∨ rest.drop d = [] := by
        by_cases h : p + d < s.size
        · exact .inl h
        · exact .inr (List.drop_of_length_le (by rw [HRL.out]; omega))
      have HDP := Lib.hid hdp
      clear hdp
      have HPN := Lib.hid hpn
      have HDR := Lib.hid hdrop
      have hex : (s.extract p (p + d)).data.toList = rest.take d := by rw [Lib.extract_data, HR.out, show p + d - p = d from by omega]
      have hexs : (s.extract p (p + d)).size = d := by
        have : (s.extract p (p + d)).data.toList.length = d := by rw [hex, List.length_take, HRL.out]; omega
        exact this
      have hall : ∀ c ∈ (s.extract p (p + d)).data.toList, isDig c = true := by rw [hex, HD.out]; exact digs_all rest
      have HA6 : Hid (∀ W, Calls Tryz.prog 142 #[.string (s.extract p (p + d))] W fun e w' => e = .returned (.tuple #[.int .i64 N, .nilIface]) ∧ Ext W w') := by
        intro W
        have := atoi_any (s.extract p (p + d)) W (by omega) (by omega) hall
        rw [hex, ← hN] at this
        exact this
      clear hz hex hexs hall hpn hdrop hN
      gi_loop [6] (fun e => ∃ j : Nat, e = .int .i64 j ∧ j ≤ d) (fun e => s.size - (intOf e).toNat)
      case atStart => exact ⟨0, rfl, by omega⟩
      case round =>
        obtain ⟨j, rfl, hj⟩ := hrel
        by_cases hA : ∃ h : p + j < s.size, isDig s[p + j] = true
        · obtain ⟨hlt, hdg⟩ := hA
          have hj' : j + 1 ≤ d := by rw [HD.out]; exact digs_step _ _ _ (by rw [← HD.out]; exact hj) (HAT.out j hlt) hdg
          have hi1 : (48 : Int) ≤ (s[p + j].toNat : Int) := by simp [isDig] at hdg; omega
          have hi2 : (s[p + j].toNat : Int) ≤ 57 := by simp [isDig] at hdg; omega
          clear hdg
          gi_wp2
          go_round
          case rel => exact ⟨j + 1, by go_num, hj'⟩
          case measure => simp [intOf]; omega
        obtain rfl : j = d := by
          by_cases hlt : p + j < s.size
          · have hnd : isDig s[p + j] = false := by
              cases h : isDig s[p + j] with
              | false => rfl
              | true => exact absurd ⟨hlt, h⟩ hA
            rw [HD.out]; exact (digs_stop _ _ _ (by rw [← HD.out]; exact hj) (HAT.out j hlt) hnd).symm
          · rw [HD.out]; exact (digs_end _ _ (by rw [← HD.out]; exact hj) (by rw [HRL.out]; omega)).symm
        rcases (show ((s.size : Int) ≤ (p : Int) + (j : Int)) ∨ ((p : Int) + (j : Int) < (s.size : Int) ∧ ∃ h : p + j < s.size, (s[p + j].toNat : Int) < 48 ∨ 57 < (s[p + j].toNat : Int)) from by
          by_cases hlt : p + j < s.size
          · refine .inr ⟨by omega, hlt, ?_⟩
            by_cases h48 : (s[p + j].toNat : Int) < 48
            · exact .inl h48
            · by_cases h57 : 57 < (s[p + j].toNat : Int)
              · exact .inr h57
              · exact absurd ⟨hlt, by simp [isDig]; omega⟩ hA
          · exact .inl (by omega)) with h1 | ⟨h1, h2, h3 | h3⟩
        all_goals
          clear hA
          gi_wp2_with (refine ⟨trivial, ?_⟩; gi_at_call 142; refine (callsIn_wide.2 (HA6.out _)).mono ?_; rintro e w2 ⟨rfl, hx2⟩; have hh2 := (hx2.block (b := wr.heap.size) (by simp)).trans (heap_new wr _); have q0 := (cells_at hh2).1 0 _ rfl; have q1 := (cells_at hh2).1 1 _ rfl; have q2 := (cells_at hh2).1 2 _ rfl; have qf := (cells_at hh2).2 0; obtain ⟨fn, tmps, assign, body, hy, hR⟩ := HY.out pre ⟨N, p, 0⟩ (w2.setCell ⟨wr.heap.size, 0, none⟩ (.int .i64 N)) (HJa.out pre wr _ none HJ.out (grownBy_of_ext ((((Ext.refl wr).alloc _).trans hx2).setCell (Nat.le_refl _) _)) (fun r e => by cases e)) (by omega); simp only [encPart] at hy; have HR2 := Lib.hid hR; have HH2 := Lib.hid hh2; clear hR hh2)
          refine HR2.out.mono ?_
          rintro e W3 (⟨rfl, hJ3, hk3⟩ | ⟨rfl, hJ3⟩)
          rotate_left
          · gi_wp2
            refine bodyPost_ret (results_none rfl _ _ _) rfl ?_
            refine ⟨⟨_, rfl⟩, .inr ⟨pre ++ [⟨N, p, 0⟩], ?_, hJ3⟩⟩
            have H0 := parts_head HPN.out HDR.out HDP.out
            obtain ⟨r, hr⟩ := H0
            exact ⟨r, by rw [HL2.out, hr]; simp⟩
          have c2 : W3.cell? ⟨wr.heap.size, 2, none⟩ = some (.int .i64 0) := hk3.cell_of (heap_setCell_at HH2.out _) 2 _ rfl
          have cB : W3.cell? ⟨Bs, 0, none⟩ = some (.string s) := (World.cell?_of_block (a := ⟨Bs, 0, none⟩) hk3.1).trans (((((Ext.refl wr).alloc _).trans hx2).setCell (Nat.le_refl _) _).cell_some hcr)
          have hsz3 : W.heap.size ≤ W3.heap.size := by
            have e1 := hx2.size
            have e2 := hk3.2.1
            simp [World.setCell] at e1 e2
            omega
          clear q0 q1 q2 qf hy
          first
            | (have hge : (s.size : Int) ≤ (p : Int) + (j : Int) := by assumption
               have heq : ((p : Int) + (j : Int) == (s.size : Int)) = true := by simp; omega
               gi_wp2
               refine bodyPost_ret (results_none rfl _ _ _) rfl ?_
               exact ⟨⟨_, rfl⟩, .inl ⟨pre ++ [⟨N, p, 0⟩], by rw [HL2.out, HPN.out.1 (List.drop_of_length_le (by rw [HRL.out]; omega))], hJ3⟩⟩)
            | (have hneq : ((p : Int) + (j : Int) == (s.size : Int)) = false := by simp; omega
               obtain ⟨r, hr1, hr2⟩ := HDR.out h2
               have HR1 := Lib.hid hr1
               have HR3 := Lib.hid hr2
               clear hr1 hr2
               by_cases hdot : s[p + j] = 46
               · have hb46 : ((s[p + j].toNat : Int) != 46) = false := by rw [hdot]; rfl
                 have HDOT := Lib.hid hdot
                 clear hdot
                 gi_wp2
                 go_roundw
                 case rel =>
                   refine ⟨p + j + 1, k + 1, pre ++ [⟨N, p, 0⟩], by go_num, by go_num, by omega, by omega, ?_, by simp; omega, hJ3, cB, hsz3⟩
                   have h0 := HPN.out.2.2 r (by rw [HR1.out, HDOT.out])
                   show partsOf s.data.toList = _
                   rw [HL2.out, h0, HR3.out]
                   simp [show 8 - (k + 1) = 7 - k from by omega]
                 case measure => simp [intOf]; omega
               · have hb46 : ((s[p + j].toNat : Int) != 46) = true := by
                   have : s[p + j].toNat ≠ 46 := fun e => hdot (UInt8.toNat_inj.1 e)
                   simp; omega
                 have HDOT := Lib.hid hdot
                 clear hdot
                 obtain ⟨fn, tmps, assign, body, hy, hR⟩ := HY.out (pre ++ [⟨N, p, 0⟩]) ⟨0, (p : Int) + (j : Int), 6⟩ W3 hJ3 (by simp; omega)
                 simp only [encPart] at hy
                 have HR4 := Lib.hid hR
                 clear hR
                 gi_wp2
                 have hfin : partsOf s.data.toList = pre ++ [⟨N, p, 0⟩] ++ [⟨0, (p : Int) + (j : Int), 6⟩] := by
                   rw [HL2.out, HPN.out.2.1 _ r HR1.out HDOT.out]; simp
                 have HFIN := Lib.hid hfin
                 clear hfin
                 refine HR4.out.mono ?_
                 rintro e W4 (⟨rfl, hJ4, hk4⟩ | ⟨rfl, hJ4⟩)
                 · gi_wp2
                   refine bodyPost_ret (results_none rfl _ _ _) rfl ?_
                   exact ⟨⟨_, rfl⟩, .inl ⟨_, HFIN.out.symm, hJ4⟩⟩
                 · gi_wp2
                   refine bodyPost_ret (results_none rfl _ _ _) rfl ?_
                   exact ⟨⟨_, rfl⟩, .inr ⟨_, ⟨[], by rw [HFIN.out]; simp⟩, hJ4⟩⟩)
end Go.Proofs.YtehmgeodpjmfaaaGreatDoor
