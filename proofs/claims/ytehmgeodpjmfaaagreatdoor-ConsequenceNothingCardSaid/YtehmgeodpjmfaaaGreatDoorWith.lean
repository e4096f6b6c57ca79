/- state's search tree: with. -/
import Derived.Test.YtehmgeodpjmfaaaGreatDoorBal
namespace Go.Proofs.YtehmgeodpjmfaaaGreatDoor
open Go.RowKit

def BT.with_ : BT → NameS → ByteArray → BT
  | .nil, n, v => .node .nil n v .nil
  | .node l m u r, n, v => if cmpNm n m < 0 then BT.bal (BT.with_ l n v) m u r else if 0 < cmpNm n m then BT.bal l m u (BT.with_ r n v) else .node l n v r
theorem BT.bal_sz (l : BT) (n : NameS) (v : ByteArray) (r : BT) : (BT.bal l n v r).sz = l.sz + r.sz + 1 := by
  rw [BT.sz_eq, BT.bal_toL, BT.sz_eq l, BT.sz_eq r]; simp; omega
theorem BT.bal_by (l : BT) (n : NameS) (v : ByteArray) (r : BT) : (BT.bal l n v r).by_ = l.by_ + r.by_ + v.size := by
  rw [BT.by_eq, BT.bal_toL, BT.by_eq l, BT.by_eq r]; simp [byL]; omega
theorem BT.with_sz : ∀ (t : BT) (n : NameS) (v : ByteArray), (t.with_ n v).sz ≤ t.sz + 1 ∧ (t.with_ n v).by_ ≤ t.by_ + v.size
  | .nil, n, v => by simp [BT.with_, BT.sz, BT.by_]
  | .node l m u r, n, v => by
    have h1 := BT.with_sz l n v
    have h2 := BT.with_sz r n v
    unfold BT.with_
    split
    · rw [BT.bal_sz, BT.bal_by]; simp only [BT.sz, BT.by_]; omega
    · split
      · rw [BT.bal_sz, BT.bal_by]; simp only [BT.sz, BT.by_]; omega
      · simp only [BT.sz, BT.by_]; omega
def AllOk (t : BT) : Prop := ∀ x ∈ t.toL, NmOk x.1
theorem AllOk.node {l r : BT} {m : NameS} {u : ByteArray} (h : AllOk (.node l m u r)) : AllOk l ∧ NmOk m ∧ AllOk r :=
  ⟨fun x hx => h x (by simp [BT.toL, hx]), h (m, u) (by simp [BT.toL]), fun x hx => h x (by simp [BT.toL, hx])⟩

set_option maxHeartbeats 8000000 in
set_option maxRecDepth 100000 in
theorem with_any (n : NameS) (v : ByteArray) (hn : NmOk n) : ∀ (t : BT) (p : Option Addr) (w : World), IsT w p t → AllOk t → t.sz ≤ 900000000 → t.by_ + v.size ≤ 900000000000000000 →
    Calls Tryz.prog 60 #[.pointer p, nmV n, .string v] w fun e w' => ∃ q, e = .returned (.pointer q) ∧ IsT w' q (t.with_ n v) ∧ Ext w w' := by
  intro t
  induction t with
  | nil =>
    intro p w hp _ _ _
    obtain rfl : p = none := hp
    go_enter Tryz.func60, Tryz.ntmps60
    simp only [nmV]
    go_wp2_with fail
    refine (join_any .nil .nil n v _ _ _ rfl rfl (by unfold Fits; simp only [BT.sz, BT.by_] at *; omega)).mono ?_
    rintro e w2 ⟨p2, rfl, ht2, hx2⟩
    go_wp2
    go_ret
    exact ⟨p2, rfl, ht2, ((Ext.refl w).alloc _).trans hx2⟩
  | node l m u r ihl ihr =>
    intro p w hp hok f1 f2
    obtain ⟨okl, okm, okr⟩ := hok.node
    simp only [BT.sz, BT.by_] at f1 f2
    have IHL := Lib.hid (fun q W hq => ihl q W hq okl (by omega) (by omega))
    have IHR := Lib.hid (fun q W hq => ihr q W hq okr (by omega) (by omega))
    have HC := Lib.hid (fun W => ocmp_any n m hn okm W)
    have hsl := BT.with_sz l n v
    have hsr := BT.with_sz r n v
    clear ihl ihr okl okm okr hok
    go_enter Tryz.func60, Tryz.ntmps60
    simp only [nmV] at HC ⊢
    obtain ⟨b, pl, pr, rfl, hb0, _, _⟩ := id hp
    clear hb0
    go_wp2_with fail
    obtain ⟨W1, hW1⟩ : ∃ W1, w.alloc (.cells #[.int .i64 n.kind, .string n.owner, .int .i64 n.number, .int .i64 n.index, .string n.text] 78) = W1 := ⟨_, rfl⟩
    have hB : Ext w W1 := by rw [← hW1]; exact (Ext.refl w).alloc _
    have a0 : W1.cell? ⟨w.heap.size, 0, none⟩ = some (.int .i64 n.kind) := by rw [← hW1]; simp
    have a1 : W1.cell? ⟨w.heap.size, 1, none⟩ = some (.string n.owner) := by rw [← hW1]; simp
    have a2 : W1.cell? ⟨w.heap.size, 2, none⟩ = some (.int .i64 n.number) := by rw [← hW1]; simp
    have a3 : W1.cell? ⟨w.heap.size, 3, none⟩ = some (.int .i64 n.index) := by rw [← hW1]; simp
    have a4 : W1.cell? ⟨w.heap.size, 4, none⟩ = some (.string n.text) := by rw [← hW1]; simp
    rw [hW1]
    obtain ⟨b', pl', pr', hpb, hbb, hbl, hbr⟩ := IsT.ext hB hp
    cases hpb
    obtain ⟨c0, c1, c2, c3, c4, c5, c6, c7, _⟩ := node_cells hbb
    have HL := Lib.hid hbl
    have HR := Lib.hid hbr
    have hD := Ext.refl W1
    clear hW1 hp hbb hbl hbr
    go_region_held3 (fun W => W.cell? ⟨w.heap.size, 0, none⟩ = some (.int .i64 n.kind) ∧ W.cell? ⟨w.heap.size, 1, none⟩ = some (.string n.owner) ∧ W.cell? ⟨w.heap.size, 2, none⟩ = some (.int .i64 n.number) ∧ W.cell? ⟨w.heap.size, 3, none⟩ = some (.int .i64 n.index) ∧ W.cell? ⟨w.heap.size, 4, none⟩ = some (.string n.text) ∧ W.cell? ⟨b, 0, none⟩ = some (.int .i64 m.kind) ∧ W.cell? ⟨b, 1, none⟩ = some (.string m.owner) ∧ W.cell? ⟨b, 2, none⟩ = some (.int .i64 m.number) ∧ W.cell? ⟨b, 3, none⟩ = some (.int .i64 m.index) ∧ W.cell? ⟨b, 4, none⟩ = some (.string m.text) ∧ W.cell? ⟨b, 5, none⟩ = some (.string u) ∧ W.cell? ⟨b, 6, none⟩ = some (.pointer pl') ∧ W.cell? ⟨b, 7, none⟩ = some (.pointer pr'))
      (exact ⟨Ext.cell_some (w := W1) (by first | assumption | exact Ext.alloc (by assumption) _ | exact Ext.drew (by assumption) | exact Ext.drew (Ext.drew (by assumption))) a0, Ext.cell_some (w := W1) (by first | assumption | exact Ext.alloc (by assumption) _ | exact Ext.drew (by assumption) | exact Ext.drew (Ext.drew (by assumption))) a1, Ext.cell_some (w := W1) (by first | assumption | exact Ext.alloc (by assumption) _ | exact Ext.drew (by assumption) | exact Ext.drew (Ext.drew (by assumption))) a2, Ext.cell_some (w := W1) (by first | assumption | exact Ext.alloc (by assumption) _ | exact Ext.drew (by assumption) | exact Ext.drew (Ext.drew (by assumption))) a3, Ext.cell_some (w := W1) (by first | assumption | exact Ext.alloc (by assumption) _ | exact Ext.drew (by assumption) | exact Ext.drew (Ext.drew (by assumption))) a4, Ext.cell_some (w := W1) (by first | assumption | exact Ext.alloc (by assumption) _ | exact Ext.drew (by assumption) | exact Ext.drew (Ext.drew (by assumption))) c0, Ext.cell_some (w := W1) (by first | assumption | exact Ext.alloc (by assumption) _ | exact Ext.drew (by assumption) | exact Ext.drew (Ext.drew (by assumption))) c1, Ext.cell_some (w := W1) (by first | assumption | exact Ext.alloc (by assumption) _ | exact Ext.drew (by assumption) | exact Ext.drew (Ext.drew (by assumption))) c2, Ext.cell_some (w := W1) (by first | assumption | exact Ext.alloc (by assumption) _ | exact Ext.drew (by assumption) | exact Ext.drew (Ext.drew (by assumption))) c3, Ext.cell_some (w := W1) (by first | assumption | exact Ext.alloc (by assumption) _ | exact Ext.drew (by assumption) | exact Ext.drew (Ext.drew (by assumption))) c4, Ext.cell_some (w := W1) (by first | assumption | exact Ext.alloc (by assumption) _ | exact Ext.drew (by assumption) | exact Ext.drew (Ext.drew (by assumption))) c5, Ext.cell_some (w := W1) (by first | assumption | exact Ext.alloc (by assumption) _ | exact Ext.drew (by assumption) | exact Ext.drew (Ext.drew (by assumption))) c6, Ext.cell_some (w := W1) (by first | assumption | exact Ext.alloc (by assumption) _ | exact Ext.drew (by assumption) | exact Ext.drew (Ext.drew (by assumption))) c7⟩)
      (first | (go_at_call 65; refine (HC.out _).mono ?_; rintro e w2 ⟨rfl, hx2⟩; have hD2 := Ext.trans (a := W1) (by first | assumption | exact Ext.alloc (by assumption) _ | exact Ext.drew (by assumption) | exact Ext.drew (Ext.drew (by assumption))) hx2))
    all_goals
      generalize hc : cmpNm n m = c at *
      have HCM := Lib.hid hc
      clear hc
      rcases (show c < 0 ∨ 0 < c ∨ (¬ c < 0 ∧ ¬ 0 < c) from by omega) with h1 | h1 | ⟨h1, h2⟩
      · go_wp2_with fail
        go_region_held3 (fun W => W.cell? ⟨w.heap.size, 0, none⟩ = some (.int .i64 n.kind) ∧ W.cell? ⟨w.heap.size, 1, none⟩ = some (.string n.owner) ∧ W.cell? ⟨w.heap.size, 2, none⟩ = some (.int .i64 n.number) ∧ W.cell? ⟨w.heap.size, 3, none⟩ = some (.int .i64 n.index) ∧ W.cell? ⟨w.heap.size, 4, none⟩ = some (.string n.text) ∧ W.cell? ⟨b, 0, none⟩ = some (.int .i64 m.kind) ∧ W.cell? ⟨b, 1, none⟩ = some (.string m.owner) ∧ W.cell? ⟨b, 2, none⟩ = some (.int .i64 m.number) ∧ W.cell? ⟨b, 3, none⟩ = some (.int .i64 m.index) ∧ W.cell? ⟨b, 4, none⟩ = some (.string m.text) ∧ W.cell? ⟨b, 5, none⟩ = some (.string u) ∧ W.cell? ⟨b, 6, none⟩ = some (.pointer pl') ∧ W.cell? ⟨b, 7, none⟩ = some (.pointer pr'))
          (exact ⟨Ext.cell_some (w := W1) (by first | assumption | exact Ext.alloc (by assumption) _ | exact Ext.drew (by assumption) | exact Ext.drew (Ext.drew (by assumption))) a0, Ext.cell_some (w := W1) (by first | assumption | exact Ext.alloc (by assumption) _ | exact Ext.drew (by assumption) | exact Ext.drew (Ext.drew (by assumption))) a1, Ext.cell_some (w := W1) (by first | assumption | exact Ext.alloc (by assumption) _ | exact Ext.drew (by assumption) | exact Ext.drew (Ext.drew (by assumption))) a2, Ext.cell_some (w := W1) (by first | assumption | exact Ext.alloc (by assumption) _ | exact Ext.drew (by assumption) | exact Ext.drew (Ext.drew (by assumption))) a3, Ext.cell_some (w := W1) (by first | assumption | exact Ext.alloc (by assumption) _ | exact Ext.drew (by assumption) | exact Ext.drew (Ext.drew (by assumption))) a4, Ext.cell_some (w := W1) (by first | assumption | exact Ext.alloc (by assumption) _ | exact Ext.drew (by assumption) | exact Ext.drew (Ext.drew (by assumption))) c0, Ext.cell_some (w := W1) (by first | assumption | exact Ext.alloc (by assumption) _ | exact Ext.drew (by assumption) | exact Ext.drew (Ext.drew (by assumption))) c1, Ext.cell_some (w := W1) (by first | assumption | exact Ext.alloc (by assumption) _ | exact Ext.drew (by assumption) | exact Ext.drew (Ext.drew (by assumption))) c2, Ext.cell_some (w := W1) (by first | assumption | exact Ext.alloc (by assumption) _ | exact Ext.drew (by assumption) | exact Ext.drew (Ext.drew (by assumption))) c3, Ext.cell_some (w := W1) (by first | assumption | exact Ext.alloc (by assumption) _ | exact Ext.drew (by assumption) | exact Ext.drew (Ext.drew (by assumption))) c4, Ext.cell_some (w := W1) (by first | assumption | exact Ext.alloc (by assumption) _ | exact Ext.drew (by assumption) | exact Ext.drew (Ext.drew (by assumption))) c5, Ext.cell_some (w := W1) (by first | assumption | exact Ext.alloc (by assumption) _ | exact Ext.drew (by assumption) | exact Ext.drew (Ext.drew (by assumption))) c6, Ext.cell_some (w := W1) (by first | assumption | exact Ext.alloc (by assumption) _ | exact Ext.drew (by assumption) | exact Ext.drew (Ext.drew (by assumption))) c7⟩)
          (first | (go_at_call 60; refine (IHL.out _ _ (IsT.ext (w := W1) (by first | assumption | exact Ext.alloc (by assumption) _ | exact Ext.drew (by assumption) | exact Ext.drew (Ext.drew (by assumption))) HL.out)).mono ?_; rintro e w3 ⟨p3, rfl, ht3, hx3⟩; have hD3 := Ext.trans (a := W1) (by first | assumption | exact Ext.alloc (by assumption) _ | exact Ext.drew (by assumption) | exact Ext.drew (Ext.drew (by assumption))) hx3) | (go_at_call 88; refine (bal_any (l.with_ n v) r m u _ _ _ ht3 (IsT.ext (w := W1) (by first | assumption | exact Ext.alloc (by assumption) _ | exact Ext.drew (by assumption) | exact Ext.drew (Ext.drew (by assumption))) HR.out) (by unfold Fits; omega)).mono ?_; rintro e w4 ⟨p4, rfl, ht4, hx4⟩; have hD4 := Ext.trans (a := W1) (by first | assumption | exact Ext.alloc (by assumption) _ | exact Ext.drew (by assumption) | exact Ext.drew (Ext.drew (by assumption))) hx4))
        all_goals go_wp2
        all_goals go_ret
        all_goals exact ⟨_, rfl, by rw [BT.with_, HCM.out, if_pos h1]; assumption, hB.trans (by assumption)⟩
      · go_wp2_with fail
        go_region_held3 (fun W => W.cell? ⟨w.heap.size, 0, none⟩ = some (.int .i64 n.kind) ∧ W.cell? ⟨w.heap.size, 1, none⟩ = some (.string n.owner) ∧ W.cell? ⟨w.heap.size, 2, none⟩ = some (.int .i64 n.number) ∧ W.cell? ⟨w.heap.size, 3, none⟩ = some (.int .i64 n.index) ∧ W.cell? ⟨w.heap.size, 4, none⟩ = some (.string n.text) ∧ W.cell? ⟨b, 0, none⟩ = some (.int .i64 m.kind) ∧ W.cell? ⟨b, 1, none⟩ = some (.string m.owner) ∧ W.cell? ⟨b, 2, none⟩ = some (.int .i64 m.number) ∧ W.cell? ⟨b, 3, none⟩ = some (.int .i64 m.index) ∧ W.cell? ⟨b, 4, none⟩ = some (.string m.text) ∧ W.cell? ⟨b, 5, none⟩ = some (.string u) ∧ W.cell? ⟨b, 6, none⟩ = some (.pointer pl') ∧ W.cell? ⟨b, 7, none⟩ = some (.pointer pr'))
          (exact ⟨Ext.cell_some (w := W1) (by first | assumption | exact Ext.alloc (by assumption) _ | exact Ext.drew (by assumption) | exact Ext.drew (Ext.drew (by assumption))) a0, Ext.cell_some (w := W1) (by first | assumption | exact Ext.alloc (by assumption) _ | exact Ext.drew (by assumption) | exact Ext.drew (Ext.drew (by assumption))) a1, Ext.cell_some (w := W1) (by first | assumption | exact Ext.alloc (by assumption) _ | exact Ext.drew (by assumption) | exact Ext.drew (Ext.drew (by assumption))) a2, Ext.cell_some (w := W1) (by first | assumption | exact Ext.alloc (by assumption) _ | exact Ext.drew (by assumption) | exact Ext.drew (Ext.drew (by assumption))) a3, Ext.cell_some (w := W1) (by first | assumption | exact Ext.alloc (by assumption) _ | exact Ext.drew (by assumption) | exact Ext.drew (Ext.drew (by assumption))) a4, Ext.cell_some (w := W1) (by first | assumption | exact Ext.alloc (by assumption) _ | exact Ext.drew (by assumption) | exact Ext.drew (Ext.drew (by assumption))) c0, Ext.cell_some (w := W1) (by first | assumption | exact Ext.alloc (by assumption) _ | exact Ext.drew (by assumption) | exact Ext.drew (Ext.drew (by assumption))) c1, Ext.cell_some (w := W1) (by first | assumption | exact Ext.alloc (by assumption) _ | exact Ext.drew (by assumption) | exact Ext.drew (Ext.drew (by assumption))) c2, Ext.cell_some (w := W1) (by first | assumption | exact Ext.alloc (by assumption) _ | exact Ext.drew (by assumption) | exact Ext.drew (Ext.drew (by assumption))) c3, Ext.cell_some (w := W1) (by first | assumption | exact Ext.alloc (by assumption) _ | exact Ext.drew (by assumption) | exact Ext.drew (Ext.drew (by assumption))) c4, Ext.cell_some (w := W1) (by first | assumption | exact Ext.alloc (by assumption) _ | exact Ext.drew (by assumption) | exact Ext.drew (Ext.drew (by assumption))) c5, Ext.cell_some (w := W1) (by first | assumption | exact Ext.alloc (by assumption) _ | exact Ext.drew (by assumption) | exact Ext.drew (Ext.drew (by assumption))) c6, Ext.cell_some (w := W1) (by first | assumption | exact Ext.alloc (by assumption) _ | exact Ext.drew (by assumption) | exact Ext.drew (Ext.drew (by assumption))) c7⟩)
          (first | (go_at_call 60; refine (IHR.out _ _ (IsT.ext (w := W1) (by first | assumption | exact Ext.alloc (by assumption) _ | exact Ext.drew (by assumption) | exact Ext.drew (Ext.drew (by assumption))) HR.out)).mono ?_; rintro e w3 ⟨p3, rfl, ht3, hx3⟩; have hD3 := Ext.trans (a := W1) (by first | assumption | exact Ext.alloc (by assumption) _ | exact Ext.drew (by assumption) | exact Ext.drew (Ext.drew (by assumption))) hx3) | (go_at_call 88; refine (bal_any l (r.with_ n v) m u _ _ _ (IsT.ext (w := W1) (by first | assumption | exact Ext.alloc (by assumption) _ | exact Ext.drew (by assumption) | exact Ext.drew (Ext.drew (by assumption))) HL.out) ht3 (by unfold Fits; omega)).mono ?_; rintro e w4 ⟨p4, rfl, ht4, hx4⟩; have hD4 := Ext.trans (a := W1) (by first | assumption | exact Ext.alloc (by assumption) _ | exact Ext.drew (by assumption) | exact Ext.drew (Ext.drew (by assumption))) hx4))
        all_goals go_wp2
        all_goals go_ret
        all_goals exact ⟨_, rfl, by rw [BT.with_, HCM.out, if_neg (by omega), if_pos h1]; assumption, hB.trans (by assumption)⟩
      · go_wp2_with fail
        go_region_held3 (fun W => W.cell? ⟨w.heap.size, 0, none⟩ = some (.int .i64 n.kind) ∧ W.cell? ⟨w.heap.size, 1, none⟩ = some (.string n.owner) ∧ W.cell? ⟨w.heap.size, 2, none⟩ = some (.int .i64 n.number) ∧ W.cell? ⟨w.heap.size, 3, none⟩ = some (.int .i64 n.index) ∧ W.cell? ⟨w.heap.size, 4, none⟩ = some (.string n.text) ∧ W.cell? ⟨b, 0, none⟩ = some (.int .i64 m.kind) ∧ W.cell? ⟨b, 1, none⟩ = some (.string m.owner) ∧ W.cell? ⟨b, 2, none⟩ = some (.int .i64 m.number) ∧ W.cell? ⟨b, 3, none⟩ = some (.int .i64 m.index) ∧ W.cell? ⟨b, 4, none⟩ = some (.string m.text) ∧ W.cell? ⟨b, 5, none⟩ = some (.string u) ∧ W.cell? ⟨b, 6, none⟩ = some (.pointer pl') ∧ W.cell? ⟨b, 7, none⟩ = some (.pointer pr'))
          (exact ⟨Ext.cell_some (w := W1) (by first | assumption | exact Ext.alloc (by assumption) _ | exact Ext.drew (by assumption) | exact Ext.drew (Ext.drew (by assumption))) a0, Ext.cell_some (w := W1) (by first | assumption | exact Ext.alloc (by assumption) _ | exact Ext.drew (by assumption) | exact Ext.drew (Ext.drew (by assumption))) a1, Ext.cell_some (w := W1) (by first | assumption | exact Ext.alloc (by assumption) _ | exact Ext.drew (by assumption) | exact Ext.drew (Ext.drew (by assumption))) a2, Ext.cell_some (w := W1) (by first | assumption | exact Ext.alloc (by assumption) _ | exact Ext.drew (by assumption) | exact Ext.drew (Ext.drew (by assumption))) a3, Ext.cell_some (w := W1) (by first | assumption | exact Ext.alloc (by assumption) _ | exact Ext.drew (by assumption) | exact Ext.drew (Ext.drew (by assumption))) a4, Ext.cell_some (w := W1) (by first | assumption | exact Ext.alloc (by assumption) _ | exact Ext.drew (by assumption) | exact Ext.drew (Ext.drew (by assumption))) c0, Ext.cell_some (w := W1) (by first | assumption | exact Ext.alloc (by assumption) _ | exact Ext.drew (by assumption) | exact Ext.drew (Ext.drew (by assumption))) c1, Ext.cell_some (w := W1) (by first | assumption | exact Ext.alloc (by assumption) _ | exact Ext.drew (by assumption) | exact Ext.drew (Ext.drew (by assumption))) c2, Ext.cell_some (w := W1) (by first | assumption | exact Ext.alloc (by assumption) _ | exact Ext.drew (by assumption) | exact Ext.drew (Ext.drew (by assumption))) c3, Ext.cell_some (w := W1) (by first | assumption | exact Ext.alloc (by assumption) _ | exact Ext.drew (by assumption) | exact Ext.drew (Ext.drew (by assumption))) c4, Ext.cell_some (w := W1) (by first | assumption | exact Ext.alloc (by assumption) _ | exact Ext.drew (by assumption) | exact Ext.drew (Ext.drew (by assumption))) c5, Ext.cell_some (w := W1) (by first | assumption | exact Ext.alloc (by assumption) _ | exact Ext.drew (by assumption) | exact Ext.drew (Ext.drew (by assumption))) c6, Ext.cell_some (w := W1) (by first | assumption | exact Ext.alloc (by assumption) _ | exact Ext.drew (by assumption) | exact Ext.drew (Ext.drew (by assumption))) c7⟩)
          (first | (go_at_call 87; refine (join_any l r n v _ _ _ (IsT.ext (w := W1) (by first | assumption | exact Ext.alloc (by assumption) _ | exact Ext.drew (by assumption) | exact Ext.drew (Ext.drew (by assumption))) HL.out) (IsT.ext (w := W1) (by first | assumption | exact Ext.alloc (by assumption) _ | exact Ext.drew (by assumption) | exact Ext.drew (Ext.drew (by assumption))) HR.out) (by unfold Fits; omega)).mono ?_; rintro e w4 ⟨p4, rfl, ht4, hx4⟩; have hD4 := Ext.trans (a := W1) (by first | assumption | exact Ext.alloc (by assumption) _ | exact Ext.drew (by assumption) | exact Ext.drew (Ext.drew (by assumption))) hx4))
        all_goals go_wp2
        all_goals go_ret
        all_goals exact ⟨_, rfl, by rw [BT.with_, HCM.out, if_neg (by omega), if_neg (by omega)]; assumption, hB.trans (by assumption)⟩
end Go.Proofs.YtehmgeodpjmfaaaGreatDoor
