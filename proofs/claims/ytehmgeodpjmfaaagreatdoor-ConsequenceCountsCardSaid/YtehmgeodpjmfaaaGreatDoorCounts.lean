/- law 50: ConsequenceCounts, the walk. -/
import Derived.Deep.QuietTactic
import Derived.BigQuiet
import Derived.Test.YtehmgeodpjmfaaaGreatDoorKnown2
import Derived.Test.YtehmgeodpjmfaaaGreatDoorCountsPure
namespace Go.Proofs.YtehmgeodpjmfaaaGreatDoor
open Go.RowKit

def encK (k : Int) : List Value := [.int .i8 k]
theorem heap_two (w : World) (o p : Obj) : ((w.alloc o).alloc p).heap[w.heap.size]? = some o :=
  (((Ext.refl (w.alloc o)).alloc p).block (by simp)).trans (heap_new w o)

set_option maxHeartbeats 8000000 in
set_option maxRecDepth 100000 in
theorem counts_any (kv : Value) (kinds : List Int) (c : ConsS) (w : World) (hk : Rd w 1 encK kv kinds) (hk8 : ∀ k ∈ kinds, -128 ≤ k ∧ k ≤ 127) (hc : ConsOk c) :
    Calls Tryz.prog 7 #[kv, consV c] w fun e w' => e = .returned (.bool true) ∧ Ext w w' := by
  obtain ⟨i0, hi, hz0, hz1, hz2⟩ := info_parts info_cons
  obtain ⟨hm, A, cp, rfl, hcs⟩ := hk
  have HC := Lib.hid hcs
  have H8 := Lib.hid hk8
  have HOK := Lib.hid hc
  clear hcs hk8 hc
  obtain ⟨k1, o1, n1, p1, ⟨c1, t1, x1, u1⟩, a1, ⟨d1, g1, y1, v1⟩, b1⟩ := c
  simp only [consV]
  go_enter Tryz.func7, Tryz.ntmps7
  go_wp2_with fail
  (with_reducible refine (known_any _).mono ?_)
  rintro e w1 ⟨rfl, hx1⟩
  have hbx := (hx1.block (b := w.heap.size) (by simp)).trans (heap_new w _)
  have hsz1 := hx1.size
  simp at hsz1
  have HNs := Lib.hid (show w.heap.size < w1.heap.size by omega)
  have HX1 := Lib.hid (((Ext.refl w).alloc _).trans hx1)
  have HBX := Lib.hid hbx
  clear hx1 hbx hsz1
  by_cases h40 : kinds.length ≤ 40
  case neg =>
    have hdd : decide ((40 : Int) < (kinds.length : Int)) = true := by simp; omega
    go_wp2_with fail
    (with_reducible refine (known_any _).mono ?_)
    rintro e w2 ⟨rfl, hx2⟩
    have HX2 := Lib.hid (HX1.out.trans hx2)
    clear hx2
    go_wp2_with fail
    go_ret
    exact ⟨rfl, HX2.out⟩
  case pos =>
    have hdd : decide ((40 : Int) < (kinds.length : Int)) = false := by simp; omega
    go_wp2_with fail
    go_loopg [5, 6, 8] kinds.length (fun g a b d wx => ∃ (i : Nat) (u v : Value), d = .int .i64 i ∧ a = u ∧ b = v ∧ i + g = kinds.length ∧ Aside (StC w w1.heap.size #[.int .i64 k1, .string o1, .int .i64 n1, .int .i64 p1, .int .i64 c1, .string t1, .string x1, .int .i64 u1, .int .i64 a1, .int .i64 d1, .string g1, .string y1, .int .i64 v1, .int .i64 b1] wx u v (mkL ⟨k1, o1, n1, p1, ⟨c1, t1, x1, u1⟩, a1, ⟨d1, g1, y1, v1⟩, b1⟩ 0 (kinds.take i)) (diffL (mkL ⟨k1, o1, n1, p1, ⟨c1, t1, x1, u1⟩, a1, ⟨d1, g1, y1, v1⟩, b1⟩ 0 (kinds.take i))) (countL (mkL ⟨k1, o1, n1, p1, ⟨c1, t1, x1, u1⟩, a1, ⟨d1, g1, y1, v1⟩, b1⟩ 0 (kinds.take i)))))
    case atStart => exact ⟨0, _, _, rfl, rfl, rfl, by omega, World.ownsRow_nil _ _ _ _, World.ownsRow_nil _ _ _ _, (fun g e => by cases e), (((Ext.refl w1).alloc _).block (Array.getElem?_eq_some_iff.1 HBX.out).1).trans HBX.out, heap_new w1 _, HNs.out, HX1.out.alloc _⟩
    case round =>
      obtain ⟨i, u, v, rfl, hu, hv, hg, hA⟩ := hrel
      have hu' := hu.symm
      have hv' := hv.symm
      subst hu' hv'
      clear hu hv
      by_cases hlt : i < kinds.length
      · obtain ⟨b, off, rfl, hb, hcell⟩ := HC.out (by omega)
        have y0 := hA.out.ext.cell_some (hcell i hlt 0 _ rfl)
        simp only [Nat.mul_one, Nat.add_zero] at y0
        have y1' : ∀ o, (wr.alloc o).cell? ⟨b, off + i, none⟩ = some (.int .i8 kinds[i]) := fun o => ((Ext.refl wr).alloc o).cell_some y0
        have hk8 := H8.out _ (List.getElem_mem hlt)
        have hT := Lib.hid (mkL_take ⟨k1, o1, n1, p1, ⟨c1, t1, x1, u1⟩, a1, ⟨d1, g1, y1, v1⟩, b1⟩ kinds i hlt)
        have hLl := mkL_len ⟨k1, o1, n1, p1, ⟨c1, t1, x1, u1⟩, a1, ⟨d1, g1, y1, v1⟩, b1⟩ (kinds.take i) 0
        rw [List.length_take] at hLl
        generalize kinds[i] = k at y0 y1' hT hk8
        generalize mkL ⟨k1, o1, n1, p1, ⟨c1, t1, x1, u1⟩, a1, ⟨d1, g1, y1, v1⟩, b1⟩ 0 (kinds.take i) = L at hA hT hLl
        have hMl : (diffL L).length ≤ L.length := List.length_filter_le _ _
        have hsum := countL_sum L
        obtain ⟨M, hM⟩ : ∃ M, diffL L = M := ⟨_, rfl⟩
        obtain ⟨X, hXX⟩ : ∃ X, countL L = X := ⟨_, rfl⟩
        have hA' := hA.out
        rw [hM, hXX] at hA'
        rw [hM] at hMl
        rw [hXX] at hsum
        have HM := Lib.hid hM
        obtain ⟨xa, xb, xc, xd, xe⟩ := X
        simp only at hsum
        have HXX := Lib.hid hXX
        have HS := Lib.hid hA'
        have hN := (Array.getElem?_eq_some_iff.1 hA'.bn).1
        have NEU := Lib.hid (show some wr.heap.size ≠ u.ownBlock from fun e => by have := (HS.out.ou.lt _ e.symm).2; omega)
        have NEV := Lib.hid (show some wr.heap.size ≠ v.ownBlock from fun e => by have := (HS.out.ov.lt _ e.symm).2; omega)
        have z0 := (cells_at hA'.bx).1 0 _ rfl
        have z1 := (cells_at hA'.bx).1 1 _ rfl
        have z2 := (cells_at hA'.bx).1 2 _ rfl
        have z3 := (cells_at hA'.bx).1 3 _ rfl
        have z4 := (cells_at hA'.bx).1 4 _ rfl
        have z5 := (cells_at hA'.bx).1 5 _ rfl
        have z6 := (cells_at hA'.bx).1 6 _ rfl
        have z7 := (cells_at hA'.bx).1 7 _ rfl
        have z8 := (cells_at hA'.bx).1 8 _ rfl
        have z9 := (cells_at hA'.bx).1 9 _ rfl
        have z10 := (cells_at hA'.bx).1 10 _ rfl
        have z11 := (cells_at hA'.bx).1 11 _ rfl
        have z12 := (cells_at hA'.bx).1 12 _ rfl
        have z13 := (cells_at hA'.bx).1 13 _ rfl
        simp only [List.getElem_toArray, List.getElem_cons_zero, List.getElem_cons_succ] at z0 z1 z2 z3 z4 z5 z6 z7 z8 z9 z10 z11 z12 z13
        have hw : IntKind.i64.wrap k = k := IntWalk.i64_in _ (by omega)
        have hsm : ∀ a : Nat, a ≤ 40 → IntKind.i64.wrap ((a : Int) + 1) = (a : Int) + 1 := fun a ha => IntWalk.i64_in _ (by omega)
        have sa := hsm xa (by omega)
        have sb := hsm xb (by omega)
        have sc := hsm xc (by omega)
        have sd := hsm xd (by omega)
        have se := hsm xe (by omega)
        clear hsm hcell hA hA' hM hXX hsum
        rcases (show k = 1 ∨ k = 2 ∨ k = 3 ∨ k = 4 ∨ k < 1 ∨ 4 < k by omega) with hk | hk | hk | hk | hk | hk
        · subst hk
          go_wp2_with (at_builtin; (refine wpList_append_own_at _ rfl _ _ 28 rfl (w1.heap.size + 1) 37 i0 _ 14 152 Tryz.underlying28 hi hz0 hz1 hz2 rfl (by decide) u _ _ rfl ((HS.out.alloc _ |>.alloc _).ou) ⟨wr.heap.size + 1, 0, none⟩ 1 1 (encC ⟨1, o1, n1, (i : Int), ⟨c1, t1, x1, u1⟩, a1, ⟨d1, g1, y1, v1⟩, b1⟩) rfl (by rfl) (news_cons _ _ (by simp) ⟨1, o1, n1, (i : Int), ⟨c1, t1, x1, u1⟩, a1, ⟨d1, g1, y1, v1⟩, b1⟩ _ rfl) (by simp [encC, Value.oneCell']) (by unfold maxLen; omega) (by omega) (by simp; omega) ?_; intro u4 w4 hown hgrow _ hob; have HS4 := Lib.hid (((HS.out.alloc (.cells #[.int .i64 1, .string o1, .int .i64 n1, .int .i64 i, .int .i64 c1, .string t1, .string x1, .int .i64 u1, .int .i64 a1, .int .i64 d1, .string g1, .string y1, .int .i64 v1, .int .i64 b1] 37)).alloc (.cells #[.int .i64 1, .string o1, .int .i64 n1, .int .i64 i, .int .i64 c1, .string t1, .string x1, .int .i64 u1, .int .i64 a1, .int .i64 d1, .string g1, .string y1, .int .i64 v1, .int .i64 b1] 37)).addU ⟨1, o1, n1, (i : Int), ⟨c1, t1, x1, u1⟩, a1, ⟨d1, g1, y1, v1⟩, b1⟩ hown hgrow hob); have hN4 := (Array.getElem?_eq_some_iff.1 HS4.out.bn).1; have hb9 : w4.heap[wr.heap.size]? = some (Obj.cells #[.int .i64 1, .string o1, .int .i64 n1, .int .i64 i, .int .i64 c1, .string t1, .string x1, .int .i64 u1, .int .i64 a1, .int .i64 d1, .string g1, .string y1, .int .i64 v1, .int .i64 b1] 37 (0, 0)) := (hgrow.block wr.heap.size (by simp <;> omega) NEU.out).trans (heap_two wr (.cells #[.int .i64 1, .string o1, .int .i64 n1, .int .i64 i, .int .i64 c1, .string t1, .string x1, .int .i64 u1, .int .i64 a1, .int .i64 d1, .string g1, .string y1, .int .i64 v1, .int .i64 b1] 37) (.cells #[.int .i64 1, .string o1, .int .i64 n1, .int .i64 i, .int .i64 c1, .string t1, .string x1, .int .i64 u1, .int .i64 a1, .int .i64 d1, .string g1, .string y1, .int .i64 v1, .int .i64 b1] 37)); clear hown hgrow hob; have tt0 := (cells_at hb9).1 0 _ rfl; have tt1 := (cells_at hb9).1 1 _ rfl; have tt2 := (cells_at hb9).1 2 _ rfl; have tt3 := (cells_at hb9).1 3 _ rfl; have tt4 := (cells_at hb9).1 4 _ rfl; have tt5 := (cells_at hb9).1 5 _ rfl; have tt6 := (cells_at hb9).1 6 _ rfl; have tt7 := (cells_at hb9).1 7 _ rfl; have tt8 := (cells_at hb9).1 8 _ rfl; have tt9 := (cells_at hb9).1 9 _ rfl; have tt10 := (cells_at hb9).1 10 _ rfl; have tt11 := (cells_at hb9).1 11 _ rfl; have tt12 := (cells_at hb9).1 12 _ rfl; have tt13 := (cells_at hb9).1 13 _ rfl; simp only [List.getElem_toArray, List.getElem_cons_zero, List.getElem_cons_succ] at tt0 tt1 tt2 tt3 tt4 tt5 tt6 tt7 tt8 tt9 tt10 tt11 tt12 tt13; have e0 := (cells_at HS4.out.bn).1 0 _ rfl; have f0 := (cells_at HS4.out.bn).2 0; have e1 := (cells_at HS4.out.bn).1 1 _ rfl; have f1 := (cells_at HS4.out.bn).2 1; have e2 := (cells_at HS4.out.bn).1 2 _ rfl; have f2 := (cells_at HS4.out.bn).2 2; have e3 := (cells_at HS4.out.bn).1 3 _ rfl; have f3 := (cells_at HS4.out.bn).2 3; have e4 := (cells_at HS4.out.bn).1 4 _ rfl; have f4 := (cells_at HS4.out.bn).2 4; simp only [List.getElem_toArray, List.getElem_cons_zero, List.getElem_cons_succ] at e0 e1 e2 e3 e4; have HB9 := Lib.hid hb9; clear hb9))
          go_roundg (kinds.length - (i + 1))
          case measure => omega
          case rel =>
            refine ⟨i + 1, _, _, by go_num, rfl, rfl, by omega, ?_⟩
            rw [hT.out, diffL_snoc, countL_snoc, HM.out, HXX.out, if_neg (by simp [mkC])]
            exact HS4.out.setN 1 _ _ (by simp [bumpK, mkC])
        · subst hk
          go_wp2_with (at_builtin; first | (refine wpList_append_own_at _ rfl _ _ 28 rfl (w1.heap.size + 1) 37 i0 _ 14 152 Tryz.underlying28 hi hz0 hz1 hz2 rfl (by decide) u _ _ rfl ((HS.out.alloc _ |>.alloc _).ou) ⟨wr.heap.size + 1, 0, none⟩ 1 1 (encC ⟨2, o1, n1, (i : Int), ⟨c1, t1, x1, u1⟩, a1, ⟨d1, g1, y1, v1⟩, b1⟩) rfl (by rfl) (news_cons _ _ (by simp) ⟨2, o1, n1, (i : Int), ⟨c1, t1, x1, u1⟩, a1, ⟨d1, g1, y1, v1⟩, b1⟩ _ rfl) (by simp [encC, Value.oneCell']) (by unfold maxLen; omega) (by omega) (by simp; omega) ?_; intro u4 w4 hown hgrow _ hob; have HS4 := Lib.hid (((HS.out.alloc (.cells #[.int .i64 2, .string o1, .int .i64 n1, .int .i64 i, .int .i64 c1, .string t1, .string x1, .int .i64 u1, .int .i64 a1, .int .i64 d1, .string g1, .string y1, .int .i64 v1, .int .i64 b1] 37)).alloc (.cells #[.int .i64 2, .string o1, .int .i64 n1, .int .i64 i, .int .i64 c1, .string t1, .string x1, .int .i64 u1, .int .i64 a1, .int .i64 d1, .string g1, .string y1, .int .i64 v1, .int .i64 b1] 37)).addU ⟨2, o1, n1, (i : Int), ⟨c1, t1, x1, u1⟩, a1, ⟨d1, g1, y1, v1⟩, b1⟩ hown hgrow hob); have hN4 := (Array.getElem?_eq_some_iff.1 HS4.out.bn).1; have hb9 : w4.heap[wr.heap.size]? = some (Obj.cells #[.int .i64 2, .string o1, .int .i64 n1, .int .i64 i, .int .i64 c1, .string t1, .string x1, .int .i64 u1, .int .i64 a1, .int .i64 d1, .string g1, .string y1, .int .i64 v1, .int .i64 b1] 37 (0, 0)) := (hgrow.block wr.heap.size (by simp <;> omega) NEU.out).trans (heap_two wr (.cells #[.int .i64 2, .string o1, .int .i64 n1, .int .i64 i, .int .i64 c1, .string t1, .string x1, .int .i64 u1, .int .i64 a1, .int .i64 d1, .string g1, .string y1, .int .i64 v1, .int .i64 b1] 37) (.cells #[.int .i64 2, .string o1, .int .i64 n1, .int .i64 i, .int .i64 c1, .string t1, .string x1, .int .i64 u1, .int .i64 a1, .int .i64 d1, .string g1, .string y1, .int .i64 v1, .int .i64 b1] 37)); clear hown hgrow hob; have tt0 := (cells_at hb9).1 0 _ rfl; have tt1 := (cells_at hb9).1 1 _ rfl; have tt2 := (cells_at hb9).1 2 _ rfl; have tt3 := (cells_at hb9).1 3 _ rfl; have tt4 := (cells_at hb9).1 4 _ rfl; have tt5 := (cells_at hb9).1 5 _ rfl; have tt6 := (cells_at hb9).1 6 _ rfl; have tt7 := (cells_at hb9).1 7 _ rfl; have tt8 := (cells_at hb9).1 8 _ rfl; have tt9 := (cells_at hb9).1 9 _ rfl; have tt10 := (cells_at hb9).1 10 _ rfl; have tt11 := (cells_at hb9).1 11 _ rfl; have tt12 := (cells_at hb9).1 12 _ rfl; have tt13 := (cells_at hb9).1 13 _ rfl; simp only [List.getElem_toArray, List.getElem_cons_zero, List.getElem_cons_succ] at tt0 tt1 tt2 tt3 tt4 tt5 tt6 tt7 tt8 tt9 tt10 tt11 tt12 tt13; have e0 := (cells_at HS4.out.bn).1 0 _ rfl; have f0 := (cells_at HS4.out.bn).2 0; have e1 := (cells_at HS4.out.bn).1 1 _ rfl; have f1 := (cells_at HS4.out.bn).2 1; have e2 := (cells_at HS4.out.bn).1 2 _ rfl; have f2 := (cells_at HS4.out.bn).2 2; have e3 := (cells_at HS4.out.bn).1 3 _ rfl; have f3 := (cells_at HS4.out.bn).2 3; have e4 := (cells_at HS4.out.bn).1 4 _ rfl; have f4 := (cells_at HS4.out.bn).2 4; simp only [List.getElem_toArray, List.getElem_cons_zero, List.getElem_cons_succ] at e0 e1 e2 e3 e4; have HB9 := Lib.hid hb9; clear hb9) | (refine wpList_append_own_at _ rfl _ _ 28 rfl (w1.heap.size + 1) 37 i0 _ 14 152 Tryz.underlying28 hi hz0 hz1 hz2 rfl (by decide) v _ _ rfl ((HS4.out.alloc _).ov) ⟨w4.heap.size, 0, none⟩ 1 1 (encC ⟨2, o1, n1, (i : Int), ⟨c1, t1, x1, u1⟩, a1, ⟨d1, g1, y1, v1⟩, b1⟩) rfl (by rfl) (news_cons _ _ (by simp) ⟨2, o1, n1, (i : Int), ⟨c1, t1, x1, u1⟩, a1, ⟨d1, g1, y1, v1⟩, b1⟩ _ rfl) (by simp [encC, Value.oneCell']) (by unfold maxLen; omega) (by omega) (by simp; omega) ?_; intro v5 w5 hown hgrow _ hob; have HS5 := Lib.hid ((HS4.out.alloc (.cells #[.int .i64 2, .string o1, .int .i64 n1, .int .i64 i, .int .i64 c1, .string t1, .string x1, .int .i64 u1, .int .i64 a1, .int .i64 d1, .string g1, .string y1, .int .i64 v1, .int .i64 b1] 37)).addV ⟨2, o1, n1, (i : Int), ⟨c1, t1, x1, u1⟩, a1, ⟨d1, g1, y1, v1⟩, b1⟩ hown hgrow hob); have hb9 : w5.heap[wr.heap.size]? = some (Obj.cells #[.int .i64 2, .string o1, .int .i64 n1, .int .i64 i, .int .i64 c1, .string t1, .string x1, .int .i64 u1, .int .i64 a1, .int .i64 d1, .string g1, .string y1, .int .i64 v1, .int .i64 b1] 37 (0, 0)) := (hgrow.block wr.heap.size (by simp; exact Nat.lt_succ_of_lt (Array.getElem?_eq_some_iff.1 HB9.out).1) NEV.out).trans ((((Ext.refl w4).alloc (.cells #[.int .i64 2, .string o1, .int .i64 n1, .int .i64 i, .int .i64 c1, .string t1, .string x1, .int .i64 u1, .int .i64 a1, .int .i64 d1, .string g1, .string y1, .int .i64 v1, .int .i64 b1] 37)).block (Array.getElem?_eq_some_iff.1 HB9.out).1).trans HB9.out); clear hown hgrow hob; have tt0q := (cells_at hb9).1 0 _ rfl; have tt1q := (cells_at hb9).1 1 _ rfl; have tt2q := (cells_at hb9).1 2 _ rfl; have tt3q := (cells_at hb9).1 3 _ rfl; have tt4q := (cells_at hb9).1 4 _ rfl; have tt5q := (cells_at hb9).1 5 _ rfl; have tt6q := (cells_at hb9).1 6 _ rfl; have tt7q := (cells_at hb9).1 7 _ rfl; have tt8q := (cells_at hb9).1 8 _ rfl; have tt9q := (cells_at hb9).1 9 _ rfl; have tt10q := (cells_at hb9).1 10 _ rfl; have tt11q := (cells_at hb9).1 11 _ rfl; have tt12q := (cells_at hb9).1 12 _ rfl; have tt13q := (cells_at hb9).1 13 _ rfl; simp only [List.getElem_toArray, List.getElem_cons_zero, List.getElem_cons_succ] at tt0q tt1q tt2q tt3q tt4q tt5q tt6q tt7q tt8q tt9q tt10q tt11q tt12q tt13q; have e0q := (cells_at HS5.out.bn).1 0 _ rfl; have f0q := (cells_at HS5.out.bn).2 0; have e1q := (cells_at HS5.out.bn).1 1 _ rfl; have f1q := (cells_at HS5.out.bn).2 1; have e2q := (cells_at HS5.out.bn).1 2 _ rfl; have f2q := (cells_at HS5.out.bn).2 2; have e3q := (cells_at HS5.out.bn).1 3 _ rfl; have f3q := (cells_at HS5.out.bn).2 3; have e4q := (cells_at HS5.out.bn).1 4 _ rfl; have f4q := (cells_at HS5.out.bn).2 4; simp only [List.getElem_toArray, List.getElem_cons_zero, List.getElem_cons_succ] at e0q e1q e2q e3q e4q; clear hb9))
          go_roundg (kinds.length - (i + 1))
          case measure => omega
          case rel =>
            refine ⟨i + 1, _, _, by go_num, rfl, rfl, by omega, ?_⟩
            rw [hT.out, diffL_snoc, countL_snoc, HM.out, HXX.out, if_pos (by simp [mkC])]
            exact HS5.out.setN 2 _ _ (by simp [bumpK, mkC])
        · subst hk
          go_wp2_with (at_builtin; first | (refine wpList_append_own_at _ rfl _ _ 28 rfl (w1.heap.size + 1) 37 i0 _ 14 152 Tryz.underlying28 hi hz0 hz1 hz2 rfl (by decide) u _ _ rfl ((HS.out.alloc _ |>.alloc _).ou) ⟨wr.heap.size + 1, 0, none⟩ 1 1 (encC ⟨3, o1, n1, (i : Int), ⟨c1, t1, x1, u1⟩, a1, ⟨d1, g1, y1, v1⟩, b1⟩) rfl (by rfl) (news_cons _ _ (by simp) ⟨3, o1, n1, (i : Int), ⟨c1, t1, x1, u1⟩, a1, ⟨d1, g1, y1, v1⟩, b1⟩ _ rfl) (by simp [encC, Value.oneCell']) (by unfold maxLen; omega) (by omega) (by simp; omega) ?_; intro u4 w4 hown hgrow _ hob; have HS4 := Lib.hid (((HS.out.alloc (.cells #[.int .i64 3, .string o1, .int .i64 n1, .int .i64 i, .int .i64 c1, .string t1, .string x1, .int .i64 u1, .int .i64 a1, .int .i64 d1, .string g1, .string y1, .int .i64 v1, .int .i64 b1] 37)).alloc (.cells #[.int .i64 3, .string o1, .int .i64 n1, .int .i64 i, .int .i64 c1, .string t1, .string x1, .int .i64 u1, .int .i64 a1, .int .i64 d1, .string g1, .string y1, .int .i64 v1, .int .i64 b1] 37)).addU ⟨3, o1, n1, (i : Int), ⟨c1, t1, x1, u1⟩, a1, ⟨d1, g1, y1, v1⟩, b1⟩ hown hgrow hob); have hN4 := (Array.getElem?_eq_some_iff.1 HS4.out.bn).1; have hb9 : w4.heap[wr.heap.size]? = some (Obj.cells #[.int .i64 3, .string o1, .int .i64 n1, .int .i64 i, .int .i64 c1, .string t1, .string x1, .int .i64 u1, .int .i64 a1, .int .i64 d1, .string g1, .string y1, .int .i64 v1, .int .i64 b1] 37 (0, 0)) := (hgrow.block wr.heap.size (by simp <;> omega) NEU.out).trans (heap_two wr (.cells #[.int .i64 3, .string o1, .int .i64 n1, .int .i64 i, .int .i64 c1, .string t1, .string x1, .int .i64 u1, .int .i64 a1, .int .i64 d1, .string g1, .string y1, .int .i64 v1, .int .i64 b1] 37) (.cells #[.int .i64 3, .string o1, .int .i64 n1, .int .i64 i, .int .i64 c1, .string t1, .string x1, .int .i64 u1, .int .i64 a1, .int .i64 d1, .string g1, .string y1, .int .i64 v1, .int .i64 b1] 37)); clear hown hgrow hob; have tt0 := (cells_at hb9).1 0 _ rfl; have tt1 := (cells_at hb9).1 1 _ rfl; have tt2 := (cells_at hb9).1 2 _ rfl; have tt3 := (cells_at hb9).1 3 _ rfl; have tt4 := (cells_at hb9).1 4 _ rfl; have tt5 := (cells_at hb9).1 5 _ rfl; have tt6 := (cells_at hb9).1 6 _ rfl; have tt7 := (cells_at hb9).1 7 _ rfl; have tt8 := (cells_at hb9).1 8 _ rfl; have tt9 := (cells_at hb9).1 9 _ rfl; have tt10 := (cells_at hb9).1 10 _ rfl; have tt11 := (cells_at hb9).1 11 _ rfl; have tt12 := (cells_at hb9).1 12 _ rfl; have tt13 := (cells_at hb9).1 13 _ rfl; simp only [List.getElem_toArray, List.getElem_cons_zero, List.getElem_cons_succ] at tt0 tt1 tt2 tt3 tt4 tt5 tt6 tt7 tt8 tt9 tt10 tt11 tt12 tt13; have e0 := (cells_at HS4.out.bn).1 0 _ rfl; have f0 := (cells_at HS4.out.bn).2 0; have e1 := (cells_at HS4.out.bn).1 1 _ rfl; have f1 := (cells_at HS4.out.bn).2 1; have e2 := (cells_at HS4.out.bn).1 2 _ rfl; have f2 := (cells_at HS4.out.bn).2 2; have e3 := (cells_at HS4.out.bn).1 3 _ rfl; have f3 := (cells_at HS4.out.bn).2 3; have e4 := (cells_at HS4.out.bn).1 4 _ rfl; have f4 := (cells_at HS4.out.bn).2 4; simp only [List.getElem_toArray, List.getElem_cons_zero, List.getElem_cons_succ] at e0 e1 e2 e3 e4; have HB9 := Lib.hid hb9; clear hb9) | (refine wpList_append_own_at _ rfl _ _ 28 rfl (w1.heap.size + 1) 37 i0 _ 14 152 Tryz.underlying28 hi hz0 hz1 hz2 rfl (by decide) v _ _ rfl ((HS4.out.alloc _).ov) ⟨w4.heap.size, 0, none⟩ 1 1 (encC ⟨3, o1, n1, (i : Int), ⟨c1, t1, x1, u1⟩, a1, ⟨d1, g1, y1, v1⟩, b1⟩) rfl (by rfl) (news_cons _ _ (by simp) ⟨3, o1, n1, (i : Int), ⟨c1, t1, x1, u1⟩, a1, ⟨d1, g1, y1, v1⟩, b1⟩ _ rfl) (by simp [encC, Value.oneCell']) (by unfold maxLen; omega) (by omega) (by simp; omega) ?_; intro v5 w5 hown hgrow _ hob; have HS5 := Lib.hid ((HS4.out.alloc (.cells #[.int .i64 3, .string o1, .int .i64 n1, .int .i64 i, .int .i64 c1, .string t1, .string x1, .int .i64 u1, .int .i64 a1, .int .i64 d1, .string g1, .string y1, .int .i64 v1, .int .i64 b1] 37)).addV ⟨3, o1, n1, (i : Int), ⟨c1, t1, x1, u1⟩, a1, ⟨d1, g1, y1, v1⟩, b1⟩ hown hgrow hob); have hb9 : w5.heap[wr.heap.size]? = some (Obj.cells #[.int .i64 3, .string o1, .int .i64 n1, .int .i64 i, .int .i64 c1, .string t1, .string x1, .int .i64 u1, .int .i64 a1, .int .i64 d1, .string g1, .string y1, .int .i64 v1, .int .i64 b1] 37 (0, 0)) := (hgrow.block wr.heap.size (by simp; exact Nat.lt_succ_of_lt (Array.getElem?_eq_some_iff.1 HB9.out).1) NEV.out).trans ((((Ext.refl w4).alloc (.cells #[.int .i64 3, .string o1, .int .i64 n1, .int .i64 i, .int .i64 c1, .string t1, .string x1, .int .i64 u1, .int .i64 a1, .int .i64 d1, .string g1, .string y1, .int .i64 v1, .int .i64 b1] 37)).block (Array.getElem?_eq_some_iff.1 HB9.out).1).trans HB9.out); clear hown hgrow hob; have tt0q := (cells_at hb9).1 0 _ rfl; have tt1q := (cells_at hb9).1 1 _ rfl; have tt2q := (cells_at hb9).1 2 _ rfl; have tt3q := (cells_at hb9).1 3 _ rfl; have tt4q := (cells_at hb9).1 4 _ rfl; have tt5q := (cells_at hb9).1 5 _ rfl; have tt6q := (cells_at hb9).1 6 _ rfl; have tt7q := (cells_at hb9).1 7 _ rfl; have tt8q := (cells_at hb9).1 8 _ rfl; have tt9q := (cells_at hb9).1 9 _ rfl; have tt10q := (cells_at hb9).1 10 _ rfl; have tt11q := (cells_at hb9).1 11 _ rfl; have tt12q := (cells_at hb9).1 12 _ rfl; have tt13q := (cells_at hb9).1 13 _ rfl; simp only [List.getElem_toArray, List.getElem_cons_zero, List.getElem_cons_succ] at tt0q tt1q tt2q tt3q tt4q tt5q tt6q tt7q tt8q tt9q tt10q tt11q tt12q tt13q; have e0q := (cells_at HS5.out.bn).1 0 _ rfl; have f0q := (cells_at HS5.out.bn).2 0; have e1q := (cells_at HS5.out.bn).1 1 _ rfl; have f1q := (cells_at HS5.out.bn).2 1; have e2q := (cells_at HS5.out.bn).1 2 _ rfl; have f2q := (cells_at HS5.out.bn).2 2; have e3q := (cells_at HS5.out.bn).1 3 _ rfl; have f3q := (cells_at HS5.out.bn).2 3; have e4q := (cells_at HS5.out.bn).1 4 _ rfl; have f4q := (cells_at HS5.out.bn).2 4; simp only [List.getElem_toArray, List.getElem_cons_zero, List.getElem_cons_succ] at e0q e1q e2q e3q e4q; clear hb9))
          go_roundg (kinds.length - (i + 1))
          case measure => omega
          case rel =>
            refine ⟨i + 1, _, _, by go_num, rfl, rfl, by omega, ?_⟩
            rw [hT.out, diffL_snoc, countL_snoc, HM.out, HXX.out, if_pos (by simp [mkC])]
            exact HS5.out.setN 3 _ _ (by simp [bumpK, mkC])
        · subst hk
          go_wp2_with (at_builtin; first | (refine wpList_append_own_at _ rfl _ _ 28 rfl (w1.heap.size + 1) 37 i0 _ 14 152 Tryz.underlying28 hi hz0 hz1 hz2 rfl (by decide) u _ _ rfl ((HS.out.alloc _ |>.alloc _).ou) ⟨wr.heap.size + 1, 0, none⟩ 1 1 (encC ⟨4, o1, n1, (i : Int), ⟨c1, t1, x1, u1⟩, a1, ⟨d1, g1, y1, v1⟩, b1⟩) rfl (by rfl) (news_cons _ _ (by simp) ⟨4, o1, n1, (i : Int), ⟨c1, t1, x1, u1⟩, a1, ⟨d1, g1, y1, v1⟩, b1⟩ _ rfl) (by simp [encC, Value.oneCell']) (by unfold maxLen; omega) (by omega) (by simp; omega) ?_; intro u4 w4 hown hgrow _ hob; have HS4 := Lib.hid (((HS.out.alloc (.cells #[.int .i64 4, .string o1, .int .i64 n1, .int .i64 i, .int .i64 c1, .string t1, .string x1, .int .i64 u1, .int .i64 a1, .int .i64 d1, .string g1, .string y1, .int .i64 v1, .int .i64 b1] 37)).alloc (.cells #[.int .i64 4, .string o1, .int .i64 n1, .int .i64 i, .int .i64 c1, .string t1, .string x1, .int .i64 u1, .int .i64 a1, .int .i64 d1, .string g1, .string y1, .int .i64 v1, .int .i64 b1] 37)).addU ⟨4, o1, n1, (i : Int), ⟨c1, t1, x1, u1⟩, a1, ⟨d1, g1, y1, v1⟩, b1⟩ hown hgrow hob); have hN4 := (Array.getElem?_eq_some_iff.1 HS4.out.bn).1; have hb9 : w4.heap[wr.heap.size]? = some (Obj.cells #[.int .i64 4, .string o1, .int .i64 n1, .int .i64 i, .int .i64 c1, .string t1, .string x1, .int .i64 u1, .int .i64 a1, .int .i64 d1, .string g1, .string y1, .int .i64 v1, .int .i64 b1] 37 (0, 0)) := (hgrow.block wr.heap.size (by simp <;> omega) NEU.out).trans (heap_two wr (.cells #[.int .i64 4, .string o1, .int .i64 n1, .int .i64 i, .int .i64 c1, .string t1, .string x1, .int .i64 u1, .int .i64 a1, .int .i64 d1, .string g1, .string y1, .int .i64 v1, .int .i64 b1] 37) (.cells #[.int .i64 4, .string o1, .int .i64 n1, .int .i64 i, .int .i64 c1, .string t1, .string x1, .int .i64 u1, .int .i64 a1, .int .i64 d1, .string g1, .string y1, .int .i64 v1, .int .i64 b1] 37)); clear hown hgrow hob; have tt0 := (cells_at hb9).1 0 _ rfl; have tt1 := (cells_at hb9).1 1 _ rfl; have tt2 := (cells_at hb9).1 2 _ rfl; have tt3 := (cells_at hb9).1 3 _ rfl; have tt4 := (cells_at hb9).1 4 _ rfl; have tt5 := (cells_at hb9).1 5 _ rfl; have tt6 := (cells_at hb9).1 6 _ rfl; have tt7 := (cells_at hb9).1 7 _ rfl; have tt8 := (cells_at hb9).1 8 _ rfl; have tt9 := (cells_at hb9).1 9 _ rfl; have tt10 := (cells_at hb9).1 10 _ rfl; have tt11 := (cells_at hb9).1 11 _ rfl; have tt12 := (cells_at hb9).1 12 _ rfl; have tt13 := (cells_at hb9).1 13 _ rfl; simp only [List.getElem_toArray, List.getElem_cons_zero, List.getElem_cons_succ] at tt0 tt1 tt2 tt3 tt4 tt5 tt6 tt7 tt8 tt9 tt10 tt11 tt12 tt13; have e0 := (cells_at HS4.out.bn).1 0 _ rfl; have f0 := (cells_at HS4.out.bn).2 0; have e1 := (cells_at HS4.out.bn).1 1 _ rfl; have f1 := (cells_at HS4.out.bn).2 1; have e2 := (cells_at HS4.out.bn).1 2 _ rfl; have f2 := (cells_at HS4.out.bn).2 2; have e3 := (cells_at HS4.out.bn).1 3 _ rfl; have f3 := (cells_at HS4.out.bn).2 3; have e4 := (cells_at HS4.out.bn).1 4 _ rfl; have f4 := (cells_at HS4.out.bn).2 4; simp only [List.getElem_toArray, List.getElem_cons_zero, List.getElem_cons_succ] at e0 e1 e2 e3 e4; have HB9 := Lib.hid hb9; clear hb9) | (refine wpList_append_own_at _ rfl _ _ 28 rfl (w1.heap.size + 1) 37 i0 _ 14 152 Tryz.underlying28 hi hz0 hz1 hz2 rfl (by decide) v _ _ rfl ((HS4.out.alloc _).ov) ⟨w4.heap.size, 0, none⟩ 1 1 (encC ⟨4, o1, n1, (i : Int), ⟨c1, t1, x1, u1⟩, a1, ⟨d1, g1, y1, v1⟩, b1⟩) rfl (by rfl) (news_cons _ _ (by simp) ⟨4, o1, n1, (i : Int), ⟨c1, t1, x1, u1⟩, a1, ⟨d1, g1, y1, v1⟩, b1⟩ _ rfl) (by simp [encC, Value.oneCell']) (by unfold maxLen; omega) (by omega) (by simp; omega) ?_; intro v5 w5 hown hgrow _ hob; have HS5 := Lib.hid ((HS4.out.alloc (.cells #[.int .i64 4, .string o1, .int .i64 n1, .int .i64 i, .int .i64 c1, .string t1, .string x1, .int .i64 u1, .int .i64 a1, .int .i64 d1, .string g1, .string y1, .int .i64 v1, .int .i64 b1] 37)).addV ⟨4, o1, n1, (i : Int), ⟨c1, t1, x1, u1⟩, a1, ⟨d1, g1, y1, v1⟩, b1⟩ hown hgrow hob); have hb9 : w5.heap[wr.heap.size]? = some (Obj.cells #[.int .i64 4, .string o1, .int .i64 n1, .int .i64 i, .int .i64 c1, .string t1, .string x1, .int .i64 u1, .int .i64 a1, .int .i64 d1, .string g1, .string y1, .int .i64 v1, .int .i64 b1] 37 (0, 0)) := (hgrow.block wr.heap.size (by simp; exact Nat.lt_succ_of_lt (Array.getElem?_eq_some_iff.1 HB9.out).1) NEV.out).trans ((((Ext.refl w4).alloc (.cells #[.int .i64 4, .string o1, .int .i64 n1, .int .i64 i, .int .i64 c1, .string t1, .string x1, .int .i64 u1, .int .i64 a1, .int .i64 d1, .string g1, .string y1, .int .i64 v1, .int .i64 b1] 37)).block (Array.getElem?_eq_some_iff.1 HB9.out).1).trans HB9.out); clear hown hgrow hob; have tt0q := (cells_at hb9).1 0 _ rfl; have tt1q := (cells_at hb9).1 1 _ rfl; have tt2q := (cells_at hb9).1 2 _ rfl; have tt3q := (cells_at hb9).1 3 _ rfl; have tt4q := (cells_at hb9).1 4 _ rfl; have tt5q := (cells_at hb9).1 5 _ rfl; have tt6q := (cells_at hb9).1 6 _ rfl; have tt7q := (cells_at hb9).1 7 _ rfl; have tt8q := (cells_at hb9).1 8 _ rfl; have tt9q := (cells_at hb9).1 9 _ rfl; have tt10q := (cells_at hb9).1 10 _ rfl; have tt11q := (cells_at hb9).1 11 _ rfl; have tt12q := (cells_at hb9).1 12 _ rfl; have tt13q := (cells_at hb9).1 13 _ rfl; simp only [List.getElem_toArray, List.getElem_cons_zero, List.getElem_cons_succ] at tt0q tt1q tt2q tt3q tt4q tt5q tt6q tt7q tt8q tt9q tt10q tt11q tt12q tt13q; have e0q := (cells_at HS5.out.bn).1 0 _ rfl; have f0q := (cells_at HS5.out.bn).2 0; have e1q := (cells_at HS5.out.bn).1 1 _ rfl; have f1q := (cells_at HS5.out.bn).2 1; have e2q := (cells_at HS5.out.bn).1 2 _ rfl; have f2q := (cells_at HS5.out.bn).2 2; have e3q := (cells_at HS5.out.bn).1 3 _ rfl; have f3q := (cells_at HS5.out.bn).2 3; have e4q := (cells_at HS5.out.bn).1 4 _ rfl; have f4q := (cells_at HS5.out.bn).2 4; simp only [List.getElem_toArray, List.getElem_cons_zero, List.getElem_cons_succ] at e0q e1q e2q e3q e4q; clear hb9))
          go_roundg (kinds.length - (i + 1))
          case measure => omega
          case rel =>
            refine ⟨i + 1, _, _, by go_num, rfl, rfl, by omega, ?_⟩
            rw [hT.out, diffL_snoc, countL_snoc, HM.out, HXX.out, if_pos (by simp [mkC])]
            exact HS5.out.setN 4 _ _ (by simp [bumpK, mkC])
        · have q1 : decide (1 ≤ k) = false := by simp; omega
          have q2 : (k != 1) = true := by simp; omega
          have HK := Lib.hid hk
          clear hk
          go_wp2_with (at_builtin; first | (refine wpList_append_own_at _ rfl _ _ 28 rfl (w1.heap.size + 1) 37 i0 _ 14 152 Tryz.underlying28 hi hz0 hz1 hz2 rfl (by decide) u _ _ rfl ((HS.out.alloc _ |>.alloc _).ou) ⟨wr.heap.size + 1, 0, none⟩ 1 1 (encC ⟨k, o1, n1, (i : Int), ⟨c1, t1, x1, u1⟩, a1, ⟨d1, g1, y1, v1⟩, b1⟩) rfl (by rfl) (news_cons _ _ (by simp) ⟨k, o1, n1, (i : Int), ⟨c1, t1, x1, u1⟩, a1, ⟨d1, g1, y1, v1⟩, b1⟩ _ rfl) (by simp [encC, Value.oneCell']) (by unfold maxLen; omega) (by omega) (by simp; omega) ?_; intro u4 w4 hown hgrow _ hob; have HS4 := Lib.hid (((HS.out.alloc (.cells #[.int .i64 k, .string o1, .int .i64 n1, .int .i64 i, .int .i64 c1, .string t1, .string x1, .int .i64 u1, .int .i64 a1, .int .i64 d1, .string g1, .string y1, .int .i64 v1, .int .i64 b1] 37)).alloc (.cells #[.int .i64 k, .string o1, .int .i64 n1, .int .i64 i, .int .i64 c1, .string t1, .string x1, .int .i64 u1, .int .i64 a1, .int .i64 d1, .string g1, .string y1, .int .i64 v1, .int .i64 b1] 37)).addU ⟨k, o1, n1, (i : Int), ⟨c1, t1, x1, u1⟩, a1, ⟨d1, g1, y1, v1⟩, b1⟩ hown hgrow hob); have hN4 := (Array.getElem?_eq_some_iff.1 HS4.out.bn).1; have hb9 : w4.heap[wr.heap.size]? = some (Obj.cells #[.int .i64 k, .string o1, .int .i64 n1, .int .i64 i, .int .i64 c1, .string t1, .string x1, .int .i64 u1, .int .i64 a1, .int .i64 d1, .string g1, .string y1, .int .i64 v1, .int .i64 b1] 37 (0, 0)) := (hgrow.block wr.heap.size (by simp <;> omega) NEU.out).trans (heap_two wr (.cells #[.int .i64 k, .string o1, .int .i64 n1, .int .i64 i, .int .i64 c1, .string t1, .string x1, .int .i64 u1, .int .i64 a1, .int .i64 d1, .string g1, .string y1, .int .i64 v1, .int .i64 b1] 37) (.cells #[.int .i64 k, .string o1, .int .i64 n1, .int .i64 i, .int .i64 c1, .string t1, .string x1, .int .i64 u1, .int .i64 a1, .int .i64 d1, .string g1, .string y1, .int .i64 v1, .int .i64 b1] 37)); clear hown hgrow hob; have tt0 := (cells_at hb9).1 0 _ rfl; have tt1 := (cells_at hb9).1 1 _ rfl; have tt2 := (cells_at hb9).1 2 _ rfl; have tt3 := (cells_at hb9).1 3 _ rfl; have tt4 := (cells_at hb9).1 4 _ rfl; have tt5 := (cells_at hb9).1 5 _ rfl; have tt6 := (cells_at hb9).1 6 _ rfl; have tt7 := (cells_at hb9).1 7 _ rfl; have tt8 := (cells_at hb9).1 8 _ rfl; have tt9 := (cells_at hb9).1 9 _ rfl; have tt10 := (cells_at hb9).1 10 _ rfl; have tt11 := (cells_at hb9).1 11 _ rfl; have tt12 := (cells_at hb9).1 12 _ rfl; have tt13 := (cells_at hb9).1 13 _ rfl; simp only [List.getElem_toArray, List.getElem_cons_zero, List.getElem_cons_succ] at tt0 tt1 tt2 tt3 tt4 tt5 tt6 tt7 tt8 tt9 tt10 tt11 tt12 tt13; have e0 := (cells_at HS4.out.bn).1 0 _ rfl; have f0 := (cells_at HS4.out.bn).2 0; have e1 := (cells_at HS4.out.bn).1 1 _ rfl; have f1 := (cells_at HS4.out.bn).2 1; have e2 := (cells_at HS4.out.bn).1 2 _ rfl; have f2 := (cells_at HS4.out.bn).2 2; have e3 := (cells_at HS4.out.bn).1 3 _ rfl; have f3 := (cells_at HS4.out.bn).2 3; have e4 := (cells_at HS4.out.bn).1 4 _ rfl; have f4 := (cells_at HS4.out.bn).2 4; simp only [List.getElem_toArray, List.getElem_cons_zero, List.getElem_cons_succ] at e0 e1 e2 e3 e4; have HB9 := Lib.hid hb9; clear hb9) | (refine wpList_append_own_at _ rfl _ _ 28 rfl (w1.heap.size + 1) 37 i0 _ 14 152 Tryz.underlying28 hi hz0 hz1 hz2 rfl (by decide) v _ _ rfl ((HS4.out.alloc _).ov) ⟨w4.heap.size, 0, none⟩ 1 1 (encC ⟨k, o1, n1, (i : Int), ⟨c1, t1, x1, u1⟩, a1, ⟨d1, g1, y1, v1⟩, b1⟩) rfl (by rfl) (news_cons _ _ (by simp) ⟨k, o1, n1, (i : Int), ⟨c1, t1, x1, u1⟩, a1, ⟨d1, g1, y1, v1⟩, b1⟩ _ rfl) (by simp [encC, Value.oneCell']) (by unfold maxLen; omega) (by omega) (by simp; omega) ?_; intro v5 w5 hown hgrow _ hob; have HS5 := Lib.hid ((HS4.out.alloc (.cells #[.int .i64 k, .string o1, .int .i64 n1, .int .i64 i, .int .i64 c1, .string t1, .string x1, .int .i64 u1, .int .i64 a1, .int .i64 d1, .string g1, .string y1, .int .i64 v1, .int .i64 b1] 37)).addV ⟨k, o1, n1, (i : Int), ⟨c1, t1, x1, u1⟩, a1, ⟨d1, g1, y1, v1⟩, b1⟩ hown hgrow hob); have hb9 : w5.heap[wr.heap.size]? = some (Obj.cells #[.int .i64 k, .string o1, .int .i64 n1, .int .i64 i, .int .i64 c1, .string t1, .string x1, .int .i64 u1, .int .i64 a1, .int .i64 d1, .string g1, .string y1, .int .i64 v1, .int .i64 b1] 37 (0, 0)) := (hgrow.block wr.heap.size (by simp; exact Nat.lt_succ_of_lt (Array.getElem?_eq_some_iff.1 HB9.out).1) NEV.out).trans ((((Ext.refl w4).alloc (.cells #[.int .i64 k, .string o1, .int .i64 n1, .int .i64 i, .int .i64 c1, .string t1, .string x1, .int .i64 u1, .int .i64 a1, .int .i64 d1, .string g1, .string y1, .int .i64 v1, .int .i64 b1] 37)).block (Array.getElem?_eq_some_iff.1 HB9.out).1).trans HB9.out); clear hown hgrow hob; have tt0q := (cells_at hb9).1 0 _ rfl; have tt1q := (cells_at hb9).1 1 _ rfl; have tt2q := (cells_at hb9).1 2 _ rfl; have tt3q := (cells_at hb9).1 3 _ rfl; have tt4q := (cells_at hb9).1 4 _ rfl; have tt5q := (cells_at hb9).1 5 _ rfl; have tt6q := (cells_at hb9).1 6 _ rfl; have tt7q := (cells_at hb9).1 7 _ rfl; have tt8q := (cells_at hb9).1 8 _ rfl; have tt9q := (cells_at hb9).1 9 _ rfl; have tt10q := (cells_at hb9).1 10 _ rfl; have tt11q := (cells_at hb9).1 11 _ rfl; have tt12q := (cells_at hb9).1 12 _ rfl; have tt13q := (cells_at hb9).1 13 _ rfl; simp only [List.getElem_toArray, List.getElem_cons_zero, List.getElem_cons_succ] at tt0q tt1q tt2q tt3q tt4q tt5q tt6q tt7q tt8q tt9q tt10q tt11q tt12q tt13q; have e0q := (cells_at HS5.out.bn).1 0 _ rfl; have f0q := (cells_at HS5.out.bn).2 0; have e1q := (cells_at HS5.out.bn).1 1 _ rfl; have f1q := (cells_at HS5.out.bn).2 1; have e2q := (cells_at HS5.out.bn).1 2 _ rfl; have f2q := (cells_at HS5.out.bn).2 2; have e3q := (cells_at HS5.out.bn).1 3 _ rfl; have f3q := (cells_at HS5.out.bn).2 3; have e4q := (cells_at HS5.out.bn).1 4 _ rfl; have f4q := (cells_at HS5.out.bn).2 4; simp only [List.getElem_toArray, List.getElem_cons_zero, List.getElem_cons_succ] at e0q e1q e2q e3q e4q; clear hb9))
          go_roundg (kinds.length - (i + 1))
          case measure => omega
          case rel =>
            refine ⟨i + 1, _, _, by go_num, rfl, rfl, by omega, ?_⟩
            rw [hT.out, diffL_snoc, countL_snoc, HM.out, HXX.out, if_pos (by simp [mkC, show k ≠ 1 by have := HK.out; omega])]
            exact HS5.out.setN 0 _ _ (by simp [bumpK, mkC, show k ≠ 1 by have := HK.out; omega, show k ≠ 2 by have := HK.out; omega, show k ≠ 3 by have := HK.out; omega, show k ≠ 4 by have := HK.out; omega])
        · have q1 : decide (1 ≤ k) = true := by simp; omega
          have q2 : (k != 1) = true := by simp; omega
          have q3 : decide (k ≤ 4) = false := by simp; omega
          have HK := Lib.hid hk
          clear hk
          go_wp2_with (at_builtin; first | (refine wpList_append_own_at _ rfl _ _ 28 rfl (w1.heap.size + 1) 37 i0 _ 14 152 Tryz.underlying28 hi hz0 hz1 hz2 rfl (by decide) u _ _ rfl ((HS.out.alloc _ |>.alloc _).ou) ⟨wr.heap.size + 1, 0, none⟩ 1 1 (encC ⟨k, o1, n1, (i : Int), ⟨c1, t1, x1, u1⟩, a1, ⟨d1, g1, y1, v1⟩, b1⟩) rfl (by rfl) (news_cons _ _ (by simp) ⟨k, o1, n1, (i : Int), ⟨c1, t1, x1, u1⟩, a1, ⟨d1, g1, y1, v1⟩, b1⟩ _ rfl) (by simp [encC, Value.oneCell']) (by unfold maxLen; omega) (by omega) (by simp; omega) ?_; intro u4 w4 hown hgrow _ hob; have HS4 := Lib.hid (((HS.out.alloc (.cells #[.int .i64 k, .string o1, .int .i64 n1, .int .i64 i, .int .i64 c1, .string t1, .string x1, .int .i64 u1, .int .i64 a1, .int .i64 d1, .string g1, .string y1, .int .i64 v1, .int .i64 b1] 37)).alloc (.cells #[.int .i64 k, .string o1, .int .i64 n1, .int .i64 i, .int .i64 c1, .string t1, .string x1, .int .i64 u1, .int .i64 a1, .int .i64 d1, .string g1, .string y1, .int .i64 v1, .int .i64 b1] 37)).addU ⟨k, o1, n1, (i : Int), ⟨c1, t1, x1, u1⟩, a1, ⟨d1, g1, y1, v1⟩, b1⟩ hown hgrow hob); have hN4 := (Array.getElem?_eq_some_iff.1 HS4.out.bn).1; have hb9 : w4.heap[wr.heap.size]? = some (Obj.cells #[.int .i64 k, .string o1, .int .i64 n1, .int .i64 i, .int .i64 c1, .string t1, .string x1, .int .i64 u1, .int .i64 a1, .int .i64 d1, .string g1, .string y1, .int .i64 v1, .int .i64 b1] 37 (0, 0)) := (hgrow.block wr.heap.size (by simp <;> omega) NEU.out).trans (heap_two wr (.cells #[.int .i64 k, .string o1, .int .i64 n1, .int .i64 i, .int .i64 c1, .string t1, .string x1, .int .i64 u1, .int .i64 a1, .int .i64 d1, .string g1, .string y1, .int .i64 v1, .int .i64 b1] 37) (.cells #[.int .i64 k, .string o1, .int .i64 n1, .int .i64 i, .int .i64 c1, .string t1, .string x1, .int .i64 u1, .int .i64 a1, .int .i64 d1, .string g1, .string y1, .int .i64 v1, .int .i64 b1] 37)); clear hown hgrow hob; have tt0 := (cells_at hb9).1 0 _ rfl; have tt1 := (cells_at hb9).1 1 _ rfl; have tt2 := (cells_at hb9).1 2 _ rfl; have tt3 := (cells_at hb9).1 3 _ rfl; have tt4 := (cells_at hb9).1 4 _ rfl; have tt5 := (cells_at hb9).1 5 _ rfl; have tt6 := (cells_at hb9).1 6 _ rfl; have tt7 := (cells_at hb9).1 7 _ rfl; have tt8 := (cells_at hb9).1 8 _ rfl; have tt9 := (cells_at hb9).1 9 _ rfl; have tt10 := (cells_at hb9).1 10 _ rfl; have tt11 := (cells_at hb9).1 11 _ rfl; have tt12 := (cells_at hb9).1 12 _ rfl; have tt13 := (cells_at hb9).1 13 _ rfl; simp only [List.getElem_toArray, List.getElem_cons_zero, List.getElem_cons_succ] at tt0 tt1 tt2 tt3 tt4 tt5 tt6 tt7 tt8 tt9 tt10 tt11 tt12 tt13; have e0 := (cells_at HS4.out.bn).1 0 _ rfl; have f0 := (cells_at HS4.out.bn).2 0; have e1 := (cells_at HS4.out.bn).1 1 _ rfl; have f1 := (cells_at HS4.out.bn).2 1; have e2 := (cells_at HS4.out.bn).1 2 _ rfl; have f2 := (cells_at HS4.out.bn).2 2; have e3 := (cells_at HS4.out.bn).1 3 _ rfl; have f3 := (cells_at HS4.out.bn).2 3; have e4 := (cells_at HS4.out.bn).1 4 _ rfl; have f4 := (cells_at HS4.out.bn).2 4; simp only [List.getElem_toArray, List.getElem_cons_zero, List.getElem_cons_succ] at e0 e1 e2 e3 e4; have HB9 := Lib.hid hb9; clear hb9) | (refine wpList_append_own_at _ rfl _ _ 28 rfl (w1.heap.size + 1) 37 i0 _ 14 152 Tryz.underlying28 hi hz0 hz1 hz2 rfl (by decide) v _ _ rfl ((HS4.out.alloc _).ov) ⟨w4.heap.size, 0, none⟩ 1 1 (encC ⟨k, o1, n1, (i : Int), ⟨c1, t1, x1, u1⟩, a1, ⟨d1, g1, y1, v1⟩, b1⟩) rfl (by rfl) (news_cons _ _ (by simp) ⟨k, o1, n1, (i : Int), ⟨c1, t1, x1, u1⟩, a1, ⟨d1, g1, y1, v1⟩, b1⟩ _ rfl) (by simp [encC, Value.oneCell']) (by unfold maxLen; omega) (by omega) (by simp; omega) ?_; intro v5 w5 hown hgrow _ hob; have HS5 := Lib.hid ((HS4.out.alloc (.cells #[.int .i64 k, .string o1, .int .i64 n1, .int .i64 i, .int .i64 c1, .string t1, .string x1, .int .i64 u1, .int .i64 a1, .int .i64 d1, .string g1, .string y1, .int .i64 v1, .int .i64 b1] 37)).addV ⟨k, o1, n1, (i : Int), ⟨c1, t1, x1, u1⟩, a1, ⟨d1, g1, y1, v1⟩, b1⟩ hown hgrow hob); have hb9 : w5.heap[wr.heap.size]? = some (Obj.cells #[.int .i64 k, .string o1, .int .i64 n1, .int .i64 i, .int .i64 c1, .string t1, .string x1, .int .i64 u1, .int .i64 a1, .int .i64 d1, .string g1, .string y1, .int .i64 v1, .int .i64 b1] 37 (0, 0)) := (hgrow.block wr.heap.size (by simp; exact Nat.lt_succ_of_lt (Array.getElem?_eq_some_iff.1 HB9.out).1) NEV.out).trans ((((Ext.refl w4).alloc (.cells #[.int .i64 k, .string o1, .int .i64 n1, .int .i64 i, .int .i64 c1, .string t1, .string x1, .int .i64 u1, .int .i64 a1, .int .i64 d1, .string g1, .string y1, .int .i64 v1, .int .i64 b1] 37)).block (Array.getElem?_eq_some_iff.1 HB9.out).1).trans HB9.out); clear hown hgrow hob; have tt0q := (cells_at hb9).1 0 _ rfl; have tt1q := (cells_at hb9).1 1 _ rfl; have tt2q := (cells_at hb9).1 2 _ rfl; have tt3q := (cells_at hb9).1 3 _ rfl; have tt4q := (cells_at hb9).1 4 _ rfl; have tt5q := (cells_at hb9).1 5 _ rfl; have tt6q := (cells_at hb9).1 6 _ rfl; have tt7q := (cells_at hb9).1 7 _ rfl; have tt8q := (cells_at hb9).1 8 _ rfl; have tt9q := (cells_at hb9).1 9 _ rfl; have tt10q := (cells_at hb9).1 10 _ rfl; have tt11q := (cells_at hb9).1 11 _ rfl; have tt12q := (cells_at hb9).1 12 _ rfl; have tt13q := (cells_at hb9).1 13 _ rfl; simp only [List.getElem_toArray, List.getElem_cons_zero, List.getElem_cons_succ] at tt0q tt1q tt2q tt3q tt4q tt5q tt6q tt7q tt8q tt9q tt10q tt11q tt12q tt13q; have e0q := (cells_at HS5.out.bn).1 0 _ rfl; have f0q := (cells_at HS5.out.bn).2 0; have e1q := (cells_at HS5.out.bn).1 1 _ rfl; have f1q := (cells_at HS5.out.bn).2 1; have e2q := (cells_at HS5.out.bn).1 2 _ rfl; have f2q := (cells_at HS5.out.bn).2 2; have e3q := (cells_at HS5.out.bn).1 3 _ rfl; have f3q := (cells_at HS5.out.bn).2 3; have e4q := (cells_at HS5.out.bn).1 4 _ rfl; have f4q := (cells_at HS5.out.bn).2 4; simp only [List.getElem_toArray, List.getElem_cons_zero, List.getElem_cons_succ] at e0q e1q e2q e3q e4q; clear hb9))
          go_roundg (kinds.length - (i + 1))
          case measure => omega
          case rel =>
            refine ⟨i + 1, _, _, by go_num, rfl, rfl, by omega, ?_⟩
            rw [hT.out, diffL_snoc, countL_snoc, HM.out, HXX.out, if_pos (by simp [mkC, show k ≠ 1 by have := HK.out; omega])]
            exact HS5.out.setN 0 _ _ (by simp [bumpK, mkC, show k ≠ 1 by have := HK.out; omega, show k ≠ 2 by have := HK.out; omega, show k ≠ 3 by have := HK.out; omega, show k ≠ 4 by have := HK.out; omega])
      · obtain rfl : i = kinds.length := by omega
        have hS := hA.out
        rw [List.take_length] at hS
        have hLl := mkL_len ⟨k1, o1, n1, p1, ⟨c1, t1, x1, u1⟩, a1, ⟨d1, g1, y1, v1⟩, b1⟩ kinds 0
        have hok := mkL_ok ⟨k1, o1, n1, p1, ⟨c1, t1, x1, u1⟩, a1, ⟨d1, g1, y1, v1⟩, b1⟩ HOK.out kinds 0 (fun k hk => by have := H8.out k hk; unfold I64; omega) (by omega)
        generalize mkL ⟨k1, o1, n1, p1, ⟨c1, t1, x1, u1⟩, a1, ⟨d1, g1, y1, v1⟩, b1⟩ 0 kinds = L at hS hLl hok
        have hU : Rd wr 14 encC u L := Rd.of_owns (enc := encC) (fun _ => rfl) hS.ou
        have hV : Rd wr 14 encC v (diffL L) := Rd.of_owns (enc := encC) (fun _ => rfl) hS.ov
        have HD := Lib.hid (fun W h => diff_any u L W h (by omega))
        have HCt := Lib.hid (fun W h => count_any u L W h (by omega))
        have hq5 := fun W => eql_five (countL L) (by have := countL_sum L; omega) W
        have hokD : ∀ x ∈ diffL L, ConsOk x := fun x hx => hok x (List.mem_filter.1 hx).1
        have hDl : (diffL L).length ≤ L.length := List.length_filter_le _ _
        have HN := Lib.hid hS.bn
        have HE := Lib.hid hS.ext
        have HU := Lib.hid hU
        generalize hXX : countL L = X at hq5 HCt HN
        obtain ⟨xa, xb, xc, xd, xe⟩ := X
        simp only [c5V] at hq5 HCt
        have HV := Lib.hid hV
        clear hS hA hok hU hV hXX
        generalize diffL L = D at HD HV hokD hDl
        have HOD := Lib.hid hokD
        clear hokD
        obtain ⟨_, Av, cv, rfl, hcv⟩ := HV.out
        have HV := Lib.hid hcv
        clear hcv
        go_wp2_with fail
        (with_reducible refine (HD.out _ HU.out).mono ?_)
        rintro e w6 ⟨ud, rfl, hr6, hx6⟩
        obtain ⟨hmD, A6, c6, rfl, hc6⟩ := hr6
        have HU6 := Lib.hid (HU.out.ext hx6)
        have hn6 := (hx6.block (Array.getElem?_eq_some_iff.1 HN.out).1).trans HN.out
        have n0 : ∀ p : Later w6, p.W.cell? ⟨w1.heap.size, 0, none⟩ = some (.int .i64 xa) := fun p => later_cell ((cells_at hn6).1 0 _ rfl) p
        have n1' : ∀ p : Later w6, p.W.cell? ⟨w1.heap.size, 1, none⟩ = some (.int .i64 xb) := fun p => later_cell ((cells_at hn6).1 1 _ rfl) p
        have n2 : ∀ p : Later w6, p.W.cell? ⟨w1.heap.size, 2, none⟩ = some (.int .i64 xc) := fun p => later_cell ((cells_at hn6).1 2 _ rfl) p
        have n3 : ∀ p : Later w6, p.W.cell? ⟨w1.heap.size, 3, none⟩ = some (.int .i64 xd) := fun p => later_cell ((cells_at hn6).1 3 _ rfl) p
        have n4 : ∀ p : Later w6, p.W.cell? ⟨w1.heap.size, 4, none⟩ = some (.int .i64 xe) := fun p => later_cell ((cells_at hn6).1 4 _ rfl) p
        have HX6 := Lib.hid hx6
        have HC6 := Lib.hid hc6
        clear hn6 hx6 hc6
        go_wp2_with fail
        refine wp_region_later (by kernel_rfl) (by kernel_rfl) ?_
        repeat (go_big_quiet_step (first | exact rfl | exact later_of (HCt.out _ (HU6.out.ext (Later.ext _)))))
        refine wpQuiet_nil ?_
        intro w7 hw7
        obtain ⟨⟨wq, hx7⟩, hq7⟩ := hw7
        have hq8 : w7 = wq := hq7
        clear hq7
        subst hq8
        have HX7 := Lib.hid hx7
        clear hx7 n0 n1' n2 n3 n4 hq5
        go_wp2_with fail
        go_loopg [11] D.length (fun g a wx => ∃ j : Nat, a = .int .i64 j ∧ j + g = D.length ∧ Aside (Ext w7 wx))
        case atStart => exact ⟨0, rfl, by omega, Ext.refl _⟩
        case round =>
          obtain ⟨j, rfl, hg2, hA2⟩ := hrel
          by_cases hlt2 : j < D.length
          · obtain ⟨b6, o6, rfl, _, hd6⟩ := HC6.out (by omega)
            obtain ⟨b7, o7, rfl, _, hd7⟩ := HV.out (by omega)
            have hq := fun W => eql_cons D[j] D[j] (HOD.out _ (List.getElem_mem hlt2)) (HOD.out _ (List.getElem_mem hlt2)) W
            rw [decide_eq_true rfl] at hq
            have hy := hd6 j hlt2
            have hz := hd7 j hlt2
            generalize D[j] = y at hq hy hz
            obtain ⟨kk, ko, kn, kp, ⟨oc, og, ox, ou⟩, ka, ⟨nc, ng, nx, nw⟩, kt⟩ := y
            simp only [consV] at hq
            have hx67 := HX7.out.trans hA2.out
            have hx17 := HX6.out.trans hx67
            have y0 := hx67.cell_some (hy 0 (.int .i64 kk) rfl)
            have z0 := hx17.cell_some (hz 0 (.int .i64 kk) rfl)
            have y1 := hx67.cell_some (hy 1 (.string ko) rfl)
            have z1 := hx17.cell_some (hz 1 (.string ko) rfl)
            have y2 := hx67.cell_some (hy 2 (.int .i64 kn) rfl)
            have z2 := hx17.cell_some (hz 2 (.int .i64 kn) rfl)
            have y3 := hx67.cell_some (hy 3 (.int .i64 kp) rfl)
            have z3 := hx17.cell_some (hz 3 (.int .i64 kp) rfl)
            have y4 := hx67.cell_some (hy 4 (.int .i64 oc) rfl)
            have z4 := hx17.cell_some (hz 4 (.int .i64 oc) rfl)
            have y5 := hx67.cell_some (hy 5 (.string og) rfl)
            have z5 := hx17.cell_some (hz 5 (.string og) rfl)
            have y6 := hx67.cell_some (hy 6 (.string ox) rfl)
            have z6 := hx17.cell_some (hz 6 (.string ox) rfl)
            have y7 := hx67.cell_some (hy 7 (.int .i64 ou) rfl)
            have z7 := hx17.cell_some (hz 7 (.int .i64 ou) rfl)
            have y8 := hx67.cell_some (hy 8 (.int .i64 ka) rfl)
            have z8 := hx17.cell_some (hz 8 (.int .i64 ka) rfl)
            have y9 := hx67.cell_some (hy 9 (.int .i64 nc) rfl)
            have z9 := hx17.cell_some (hz 9 (.int .i64 nc) rfl)
            have y10 := hx67.cell_some (hy 10 (.string ng) rfl)
            have z10 := hx17.cell_some (hz 10 (.string ng) rfl)
            have y11 := hx67.cell_some (hy 11 (.string nx) rfl)
            have z11 := hx17.cell_some (hz 11 (.string nx) rfl)
            have y12 := hx67.cell_some (hy 12 (.int .i64 nw) rfl)
            have z12 := hx17.cell_some (hz 12 (.int .i64 nw) rfl)
            have y13 := hx67.cell_some (hy 13 (.int .i64 kt) rfl)
            have z13 := hx17.cell_some (hz 13 (.int .i64 kt) rfl)
            simp only [Nat.add_zero] at y0 z0
            clear hd6 hd7 hy hz hx67 hx17
            go_wp2_with fail
            go_quiet (fail)
            go_wp2_with fail
            go_roundg (D.length - (j + 1))
            case measure => omega
            case rel => exact ⟨j + 1, by go_num, by omega, hA2.out.drewN _⟩
          · have hj : j = D.length := by omega
            go_wp2_with fail
            go_ret
            exact ⟨rfl, HE.out.trans (HX6.out.trans (HX7.out.trans hA2.out))⟩
end Go.Proofs.YtehmgeodpjmfaaaGreatDoor

