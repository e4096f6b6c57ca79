/- output: Name, Decode. -/
import Derived.Test.YtehmgeodpjmfaaaGreatDoorEnc
import Derived.Test.YtehmgeodpjmfaaaGreatDoorCheck
import Derived.Laws.ResultCell
namespace Go.Proofs.YtehmgeodpjmfaaaGreatDoor
open Go.RowKit

theorem ofOut_any (o : ByteArray) (n i : Int) (w : World) :
    Calls Tryz.prog 61 #[.string o, .int .i64 n, .int .i64 i] w fun e w' => e = .returned (nmV (outNm o n i)) ∧ Ext w w' := by
  simp only [nmV, outNm]
  go_enter Tryz.func61, Tryz.ntmps61
  go_wp2
  exact bodyPost_ret (v := .agg #[.int .i64 18, .string o, .int .i64 n, .int .i64 i, .string ⟨#[]⟩]) (by simp [results, Tryz.results61, go_sem]) rfl ⟨rfl, by repeat (first | exact Ext.refl _ | refine Ext.setCell ?_ (Nat.le_refl _) _ | refine Ext.alloc ?_ _)⟩
theorem name_any (o : ByteArray) (n i : Int) (w : World) :
    Calls Tryz.prog 31 #[.string o, .int .i64 n, .int .i64 i] w fun e w' => e = .returned (nmV (outNm o n i)) ∧ Ext w w' := by
  have H := Lib.hid (fun W => ofOut_any o n i W)
  simp only [nmV, outNm] at H ⊢
  go_enter Tryz.func31, Tryz.ntmps31
  go_wp2_with fail
  (with_reducible refine (H.out _).mono ?_)
  rintro e w1 ⟨rfl, hx1⟩
  have hb := (hx1.block (b := w.heap.size) (by simp)).trans (heap_new w _)
  have c0 := (cells_at hb).1 0 _ rfl
  have c1 := (cells_at hb).1 1 _ rfl
  have c2 := (cells_at hb).1 2 _ rfl
  have c3 := (cells_at hb).1 3 _ rfl
  have c4 := (cells_at hb).1 4 _ rfl
  have f0 := (cells_at hb).2 0
  have f1 := (cells_at hb).2 1
  have f2 := (cells_at hb).2 2
  have f3 := (cells_at hb).2 3
  have f4 := (cells_at hb).2 4
  simp only [List.getElem_toArray, List.getElem_cons_zero, List.getElem_cons_succ] at c0 c1 c2 c3 c4
  have HB := Lib.hid (And.intro hx1 hb)
  clear hx1 hb
  go_wp2_with fail
  refine bodyPost_ret (results_cell_row rfl _ _ w.heap.size 78 _ (0, 0) _ rfl (set5 HB.out.2 _ _ _ _ _) Tryz.underlying78 rfl (by kernel_rfl)) rfl ⟨rfl, ?_⟩
  have hx := ((Ext.refl w).alloc (.cells #[.int .i64 0, .string ⟨#[]⟩, .int .i64 0, .int .i64 0, .string ⟨#[]⟩] 78)).trans HB.out.1
  repeat (first | exact hx | refine Ext.setCell ?_ (Nat.le_refl _) _)

theorem set4 {w : World} {b : Nat} {T : TypeId} {x0 x1 x2 x3 : Value} (h : w.heap[b]? = some (Obj.cells #[x0, x1, x2, x3] T (0, 0))) (y0 y1 y2 y3 : Value) :
    ((((w.setCell ⟨b, 0, none⟩ y0).setCell ⟨b, 1, none⟩ y1).setCell ⟨b, 2, none⟩ y2).setCell ⟨b, 3, none⟩ y3).heap[b]? = some (Obj.cells #[y0, y1, y2, y3] T (0, 0)) :=
  heap_setCell_at (heap_setCell_at (heap_setCell_at (heap_setCell_at h y0) y1) y2) y3
theorem results_cell_row_tmp {P : Program} {fn : Func} {p u : Tmp} {ty : TypeId} (h : fn.results = #[.cell p ty, .tmp u]) (tmps : Array Value) (w : World) (g : Nat) (t : TypeId) (cs : Array Value) (fr : Nat × Nat) (d : TypeDesc)
    (hp : tmps.getD p undef = .pointer (some ⟨g, 0, none⟩)) (hg : w.heap[g]? = some (.cells cs t fr))
    (hu : P.underlying ty = some d) (hd : (match d with | .struct _ | .array _ _ => true | _ => false) = true) (hi : (P.info? ty).map (·.size) = some cs.size) :
    (results fn tmps).run P w = .ok (.tuple #[.agg cs, tmps.getD u undef]) w := by
  have hp' : tmps[p]?.getD undef = .pointer (some ⟨g, 0, none⟩) := by simpa using hp
  rw [results_cell_tmp h]
  simp [hp', asAddr, run_loadVar_row w g t ty cs fr d hg hu hd hi, Result.andThen]

theorem reader_of_row {w : World} {base : Nat} {v : Value} {l : List UInt8} (h : w.ownsRow base 5 1 v l.length (l.flatMap encB)) (hl : l.length ≤ 1000000000) (o : Obj) (ho : o = .cells #[v, .int .i64 0, .int .i64 0] 185) :
    RAt (w.alloc o) w.heap.size ⟨l, 0, 0⟩ := by
  subst ho
  have hr : Rd w 1 encB v l := Rd.of_owns (enc := encB) (fun _ => rfl) h
  obtain ⟨_, A, c, rfl, hc⟩ := hr.byte
  refine ⟨A, c, heap_new w _, Nat.zero_le _, hl, ?_, fun h0 => ?_⟩
  · rcases h.2 with ⟨h1, h2⟩ | ⟨g, cap, cur, h1, _, _, h2, _⟩
    · rw [h2]; exact Nat.zero_le _
    · cases h1; exact h2
  · obtain ⟨g, off, hA, hlt, hcs⟩ := hc h0
    exact ⟨g, off, hA, Nat.ne_of_lt hlt, by simp; omega, fun j hj => ((Ext.refl w).alloc _).cell_some (hcs j hj)⟩
set_option maxHeartbeats 4000000 in
theorem newReader_any (x : Value) (l : List UInt8) (w : World) (h : Rd w 1 encB x l) (hl : l.length ≤ 1000000000) :
    Calls Tryz.prog 66 #[x] w fun e w' => ∃ q, e = .returned (.pointer (some ⟨q, 0, none⟩)) ∧ w.heap.size ≤ q ∧ RAt w' q ⟨l, 0, 0⟩ ∧ Ext w w' := by
  obtain ⟨i0, hi, hz0, hz1, hz2⟩ := info_parts info_byte
  have HV := Lib.hid h
  clear h
  go_enter Tryz.func66, Tryz.ntmps66
  go_wp2_with (at_builtin; refine wpList_append_rd _ rfl _ _ 46 rfl w.heap.size 5 i0 (.int .u8 0) 1 1 Tryz.underlying46 hi hz0 hz1 hz2 rfl (by decide) _ 0 [] rfl (owns_empty w _ 1) encB (fun _ => rfl) (by simp [encB, Value.oneCell']) x l rfl (HV.out.ext ((Ext.refl w).alloc _)) (by unfold maxLen; omega) (by omega) (by simp) ?_; intro v' w1 hown' hgrow hat; obtain ⟨A', n', c', rfl⟩ := ownsRow_slice hown'; have HR := Lib.hid (And.intro hown' hgrow); clear hown' hgrow hat)
  go_ret
  have h1 := HR.out.1
  rw [Nat.zero_add, List.nil_append] at h1
  have hx : Ext w w1 := Below.grown ((Ext.refl w).alloc _) HR.out.2 (by simp) (fun k e => by cases e; simp)
  exact ⟨_, rfl, hx.size, reader_of_row h1 hl _ rfl, hx.alloc _⟩
theorem rest_r (b : Nat) (r : RS) (A : Option Addr) (c : Nat) (w : World) (h : RAtV w b A c r) :
    Calls Tryz.prog 96 #[.pointer (some ⟨b, 0, none⟩)] w fun e w' => e = .returned (.int .i64 r.rest.length) ∧ ∃ n, w' = w.drewN n := by
  have hR := h
  have c0 := (cells_at hR.1).1 0 _ rfl
  have c1 := (cells_at hR.1).1 1 _ rfl
  simp only [List.getElem_toArray, List.getElem_cons_zero, List.getElem_cons_succ] at c0 c1
  have ha := hR.2.1
  have hl := hR.2.2.1
  have HE : Hid ((r.rest.length : Int) = (r.b.length : Int) - (r.at_ : Int)) := Lib.hid (by unfold RS.rest; rw [List.length_drop]; omega)
  clear hR h
  go_enter Tryz.func96, Tryz.ntmps96
  go_wp2_with fail
  go_quiet (fail)
  go_wp2_with fail
  go_ret
  exact ⟨ret_int HE.out.symm, _, rfl⟩
set_option maxHeartbeats 4000000 in
theorem close_r (b : Nat) (r : RS) (A : Option Addr) (c : Nat) (w : World) (h : RAtV w b A c r) :
    Calls Tryz.prog 68 #[.pointer (some ⟨b, 0, none⟩)] w fun e w' => e = .returned (.int .i64 r.close) ∧ Ext w w' := by
  have HR := Lib.hid (rest_r b r A c w h)
  have hR := h
  have c2 := (cells_at hR.1).1 2 _ rfl
  simp only [List.getElem_toArray, List.getElem_cons_zero, List.getElem_cons_succ] at c2
  have HE : Hid (r.close = if r.f = 0 ∧ 0 < r.rest.length then 5 else r.f) := Lib.hid rfl
  generalize r.close = k at HE ⊢
  clear hR h
  generalize r.rest.length = n at HR HE
  generalize r.f = f at c2 HE
  by_cases hf : f = 0
  · subst hf
    by_cases hn : 0 < n
    · have H := HE.out
      rw [if_pos ⟨rfl, hn⟩] at H
      subst H
      have hn' : decide (0 < n) = true := by simpa using hn
      clear HE
      go_enter Tryz.func68, Tryz.ntmps68
      go_wp2_with fail
      (with_reducible refine HR.out.mono ?_)
      rintro e w1 ⟨rfl, q, rfl⟩
      go_wp2_with fail
      go_ret
      exact ⟨rfl, (Ext.refl w).drewN _⟩
    · have H := HE.out
      rw [if_neg (fun h => hn h.2)] at H
      subst H
      have hn' : decide (0 < n) = false := by simpa using hn
      clear HE
      go_enter Tryz.func68, Tryz.ntmps68
      go_wp2_with fail
      (with_reducible refine HR.out.mono ?_)
      rintro e w1 ⟨rfl, q, rfl⟩
      go_wp2_with fail
      go_ret
      exact ⟨rfl, (Ext.refl w).drewN _⟩
  · have H := HE.out
    rw [if_neg (fun h => hf h.1)] at H
    subst H
    have hf' : (k == 0) = false := by simpa using hf
    clear HE
    go_enter Tryz.func68, Tryz.ntmps68
    go_wp2_with fail
    go_ret
    exact ⟨rfl, Ext.refl w⟩

theorem grown_setNew {w w' : World} {row : Option Nat} (h : w.grownBy w' row) {k : Nat} (hk : w.heap.size ≤ k) (i : Nat) (u : Value) : w.grownBy (w'.setCell ⟨k, i, none⟩ u) row :=
  ⟨h.os, h.tape, h.output, by simpa using h.size, fun j hj hr => by
    rw [Below.heap_setCell _ _ _ _ (by simp; omega)]
    exact h.block j hj hr⟩
theorem RAtV.other {w : World} {b : Nat} {A : Option Addr} {c : Nat} {r : RS} (h : RAtV w b A c r) {k : Nat} (hk : b ≠ k) (hA : 0 < r.b.length → ∃ g off, A = some ⟨g, off, none⟩ ∧ g ≠ k) (i : Nat) (u : Value) : RAtV (w.setCell ⟨k, i, none⟩ u) b A c r := by
  have hg := setCell_grown w k i u
  refine ⟨(hg.block b (Array.getElem?_eq_some_iff.1 h.1).1 (by simpa using hk)).trans h.1, h.2.1, h.2.2.1, h.2.2.2.1, fun h0 => ?_⟩
  obtain ⟨g, off, rfl, hne, hlt, hc⟩ := h.2.2.2.2 h0
  obtain ⟨g', off', hA, hk'⟩ := hA h0
  cases hA
  exact ⟨g, off, rfl, hne, by simpa using hlt, fun j hj => hg.cell (hc j hj) (by simpa using hk')⟩
theorem read_b {α : Type} (z : α) (val : List UInt8 → α × Nat × Int) (r : RS) : (r.read z val).2.b = r.b := by
  unfold RS.read; split
  · rfl
  · split <;> rfl
def outR (r : RS) : OutS × RS :=
  (⟨(r.read 0 (numV 4)).1, ⟨((r.read 0 (numV 4)).2.read [] (textV 64)).1.toArray⟩, ⟨(((r.read 0 (numV 4)).2.read [] (textV 64)).2.read [] (textV 4096)).1.toArray⟩, ((((r.read 0 (numV 4)).2.read [] (textV 64)).2.read [] (textV 4096)).2.read 0 (numV 65535)).1⟩,
   ((((r.read 0 (numV 4)).2.read [] (textV 64)).2.read [] (textV 4096)).2.read 0 (numV 65535)).2)
set_option maxHeartbeats 4000000 in
set_option maxRecDepth 100000 in
theorem readOut_any (b : Nat) (r : RS) (A : Option Addr) (c : Nat) (w : World) (h : RAtV w b A c r) (hb : b < w.heap.size) :
    Calls Tryz.prog 67 #[.pointer (some ⟨b, 0, none⟩)] w fun e w' => e = .returned (outV (outR r).1) ∧ RAtV w' b A c (outR r).2 ∧ w.grownBy w' (some b) := by
  have H1 := Lib.hid (fun W h => number_r b 4 r A c W h)
  have H2 := Lib.hid (fun W h => text_r b 64 (r.read 0 (numV 4)).2 A c W h)
  have H3 := Lib.hid (fun W h => text_r b 4096 ((r.read 0 (numV 4)).2.read [] (textV 64)).2 A c W h)
  have H4 := Lib.hid (fun W h => number_r b 65535 (((r.read 0 (numV 4)).2.read [] (textV 64)).2.read [] (textV 4096)).2 A c W h)
  have HL : Hid (((((r.read 0 (numV 4)).2.read [] (textV 64)).2.read [] (textV 4096)).2.read 0 (numV 65535)).2.b.length = r.b.length) := Lib.hid (by rw [read_b, read_b, read_b, read_b])
  simp only [outR, outV]
  generalize ((((r.read 0 (numV 4)).2.read [] (textV 64)).2.read [] (textV 4096)).2.read 0 (numV 65535)) = p4 at H4 HL ⊢
  generalize (((r.read 0 (numV 4)).2.read [] (textV 64)).2.read [] (textV 4096)) = p3 at H3 H4 ⊢
  generalize ((r.read 0 (numV 4)).2.read [] (textV 64)) = p2 at H2 H3 ⊢
  generalize (r.read 0 (numV 4)) = p1 at H1 H2 ⊢
  obtain ⟨x1, r1⟩ := p1
  obtain ⟨x2, r2⟩ := p2
  obtain ⟨x3, r3⟩ := p3
  obtain ⟨x4, r4⟩ := p4
  simp only at H1 H2 H3 H4 HL ⊢
  have HR := Lib.hid (h.kept ((Ext.refl w).alloc (.cells #[.int .i64 0, .string ⟨#[]⟩, .string ⟨#[]⟩, .int .i64 0] 35)))
  have HA : Hid (0 < r.b.length → ∃ g off, A = some ⟨g, off, none⟩ ∧ g < w.heap.size) := Lib.hid (fun h0 => by
    obtain ⟨g, off, hA, _, hlt, _⟩ := h.2.2.2.2 h0
    exact ⟨g, off, hA, hlt⟩)
  clear h
  go_enter Tryz.func67, Tryz.ntmps67
  go_wp2_with fail
  (with_reducible refine (H1.out _ HR.out).mono ?_)
  rintro e w1 ⟨rfl, hr1, hg1⟩
  have Z1 := Lib.hid (And.intro hr1 hg1)
  clear hr1 hg1
  go_wp2_with fail
  (with_reducible refine (H2.out _ Z1.out.1).mono ?_)
  rintro e w2 ⟨rfl, hr2, hg2⟩
  have Z2 := Lib.hid (And.intro hr2 (Z1.out.2.trans hg2))
  clear hr2 hg2
  go_wp2_with fail
  (with_reducible refine (H3.out _ Z2.out.1).mono ?_)
  rintro e w3 ⟨rfl, hr3, hg3⟩
  have Z3 := Lib.hid (And.intro hr3 (Z2.out.2.trans hg3))
  clear hr3 hg3
  go_wp2_with fail
  (with_reducible refine (H4.out _ Z3.out.1).mono ?_)
  rintro e w4 ⟨rfl, hr4, hg4⟩
  have hg := Z3.out.2.trans hg4
  have hbk := (hg.block w.heap.size (by simp) (by simp; omega)).trans (heap_new w _)
  have c0 := (cells_at hbk).1 0 _ rfl
  have c1 := (cells_at hbk).1 1 _ rfl
  have c2 := (cells_at hbk).1 2 _ rfl
  have c3 := (cells_at hbk).1 3 _ rfl
  have f0 := (cells_at hbk).2 0
  have f1 := (cells_at hbk).2 1
  have f2 := (cells_at hbk).2 2
  have f3 := (cells_at hbk).2 3
  simp only [List.getElem_toArray, List.getElem_cons_zero, List.getElem_cons_succ] at c0 c1 c2 c3
  have Z4 := Lib.hid (And.intro hr4 (And.intro hg hbk))
  clear hr4 hg4 hg hbk
  go_wp2_with fail
  refine bodyPost_ret (results_cell_row rfl _ _ w.heap.size 35 _ (0, 0) _ rfl (set4 Z4.out.2.2 _ _ _ _) Tryz.underlying35 rfl (by kernel_rfl)) rfl ⟨rfl, ?_, ?_⟩
  · have hk : b ≠ w.heap.size := by omega
    have hA : 0 < r4.b.length → ∃ g off, A = some ⟨g, off, none⟩ ∧ g ≠ w.heap.size := fun h0 => by
      obtain ⟨g, off, h1, h2⟩ := HA.out (by rw [← HL.out]; exact h0)
      exact ⟨g, off, h1, by omega⟩
    exact ((((Z4.out.1.other hk hA 0 _).other hk hA 1 _).other hk hA 2 _).other hk hA 3 _)
  · refine grown_setNew (grown_setNew (grown_setNew (grown_setNew ?_ (Nat.le_refl _) _ _) (Nat.le_refl _) _ _) (Nat.le_refl _) _ _) (Nat.le_refl _) _ _
    exact (World.grownBy_alloc _ _ _).trans Z4.out.2.1

def outZ : OutS := ⟨0, ⟨#[]⟩, ⟨#[]⟩, 0⟩
/-- What Decode answers of bytes. -/
def decL (l : List UInt8) : OutS × Int := if (outR ⟨l, 0, 0⟩).2.close ≠ 0 ∨ (outR ⟨l, 0, 0⟩).1.chk ≠ 0 then (outZ, 3) else ((outR ⟨l, 0, 0⟩).1, 0)
theorem textV_len (most : Int) (l : List UInt8) : (textV most l).1.length ≤ l.length := by
  unfold textV
  split
  · simp
  · split
    · simp
    · split
      · simp
      · show (List.take _ (List.drop _ l)).length ≤ l.length
        rw [List.length_take, List.length_drop]; omega
theorem readText_len (r : RS) (most : Int) : (r.read [] (textV most)).1.length ≤ r.b.length := by
  unfold RS.read
  have h := textV_len most r.rest
  have h2 : r.rest.length ≤ r.b.length := by unfold RS.rest; rw [List.length_drop]; omega
  split
  · simp
  · split
    · simp
    · exact Nat.le_trans h h2

set_option maxHeartbeats 4000000 in
set_option maxRecDepth 100000 in
theorem decode_any (x : ByteArray) (w : World) (hs : x.size ≤ 1000000000) :
    Calls Tryz.prog 36 #[.string x] w fun e w' => e = .returned (.tuple #[outV (decL x.data.toList).1, .int .i64 (decL x.data.toList).2]) ∧ Ext w w' := by
  have H1 := Lib.hid (fun v W hW => newReader_any v x.data.toList W hW (by rw [Array.length_toList]; exact hs))
  have H2 := Lib.hid (fun b A c W h hb => readOut_any b ⟨x.data.toList, 0, 0⟩ A c W h hb)
  have H3 := Lib.hid (fun b A c W h => close_r b (outR ⟨x.data.toList, 0, 0⟩).2 A c W h)
  have hl : x.data.toList.length ≤ 1000000000 := by rw [Array.length_toList]; exact hs
  have ht : (outR ⟨x.data.toList, 0, 0⟩).1.target.size ≤ 1000000000 := by
    have := readText_len ((⟨x.data.toList, 0, 0⟩ : RS).read 0 (numV 4)).2 64
    rw [read_b] at this
    exact Nat.le_trans this hl
  have hx : (outR ⟨x.data.toList, 0, 0⟩).1.text.size ≤ 1000000000 := by
    have := readText_len (((⟨x.data.toList, 0, 0⟩ : RS).read 0 (numV 4)).2.read [] (textV 64)).2 4096
    rw [read_b, read_b] at this
    exact Nat.le_trans this hl
  have H4 := Lib.hid (fun W => chk_any (outR ⟨x.data.toList, 0, 0⟩).1 W (by omega) (by omega))
  have HD : Hid (decL x.data.toList = if (outR ⟨x.data.toList, 0, 0⟩).2.close ≠ 0 ∨ (outR ⟨x.data.toList, 0, 0⟩).1.chk ≠ 0 then (outZ, 3) else ((outR ⟨x.data.toList, 0, 0⟩).1, 0)) := Lib.hid rfl
  clear ht hx hl
  generalize decL x.data.toList = D at HD ⊢
  generalize (outR ⟨x.data.toList, 0, 0⟩).2.close = k1 at H3 HD
  generalize (outR ⟨x.data.toList, 0, 0⟩).1.chk = k2 at H4 HD
  generalize (outR ⟨x.data.toList, 0, 0⟩).2 = r2 at H2 H3
  generalize (outR ⟨x.data.toList, 0, 0⟩).1 = o at H2 H4 HD
  obtain ⟨ch, tg, tx, us⟩ := o
  simp only [outV] at H2 H4 ⊢
  obtain ⟨W0, cp, hcv, hE, hB, hS⟩ := conv_bytes (w.alloc (.cells #[.int .i64 0, .string ⟨#[]⟩, .string ⟨#[]⟩, .int .i64 0] 35)) x
  have HRd : Hid (Rd W0 1 encB (.slice (some ⟨w.heap.size + 1, 0, none⟩) x.size cp) x.data.toList) := Lib.hid (by
    refine ⟨by rw [Array.length_toList]; show x.size ≤ _; omega, _, cp, rfl, fun h0 => ⟨_, 0, rfl, by rw [hS]; simp, fun j hj i u hu => ?_⟩⟩
    have := flat_get encB (fun _ => rfl) x.data.toList j i hj (sz := 1) (by have := (List.getElem?_eq_some_iff.1 hu).1; simpa [encB] using this)
    have hc := hB (j * 1 + i) u (by rw [this]; exact hu)
    rw [Nat.zero_add]
    simpa using hc)
  have hEw : Ext w W0 := ((Ext.refl w).alloc _).trans hE
  have hb0 := (hE.block (b := w.heap.size) (by simp)).trans (heap_new w _)
  have HE := Lib.hid (And.intro hEw hb0)
  clear hB hE hS hs hEw hb0
  by_cases h1 : k1 = 0
  · have h1' : (k1 != 0) = false := by simpa using h1
    by_cases h2 : k2 = 0
    · have h2' : (k2 != 0) = false := by simpa using h2
      have H := HD.out
      rw [if_neg (by rintro (h | h); exact h h1; exact h h2)] at H
      subst H
      clear HD h1 h2
      go_enter Tryz.func36, Tryz.ntmps36
      go_wp2_with fail
      (with_reducible refine (H1.out _ _ HRd.out).mono ?_)
      rintro e w1 ⟨q, rfl, hq, ⟨A, c, hr1⟩, hx1⟩
      have hqs := (Array.getElem?_eq_some_iff.1 hr1.1).1
      have hsz1 := hx1.size
      have hszw := HE.out.1.size
      have Z1 := Lib.hid (And.intro hr1 hx1)
      clear hr1 hx1
      go_wp2_with fail
      (with_reducible refine (H2.out q A c _ Z1.out.1 hqs).mono ?_)
      rintro e w2 ⟨rfl, hr2, hg2⟩
      have hx2 : Ext w w2 := Below.grown (HE.out.1.trans Z1.out.2) hg2 (by omega) (fun k e => by cases e; omega)
      have hb2 := (hg2.block w.heap.size (by have := (Array.getElem?_eq_some_iff.1 HE.out.2).1; omega) (by have := (Array.getElem?_eq_some_iff.1 HE.out.2).1; simp; omega)).trans ((Z1.out.2.block (Array.getElem?_eq_some_iff.1 HE.out.2).1).trans HE.out.2)
      have Z2 := Lib.hid (And.intro (hr2.kept ((Ext.refl w2).alloc (.cells #[.int .i64 ch, .string tg, .string tx, .int .i64 us] 35))) (And.intro (hx2.alloc (.cells #[.int .i64 ch, .string tg, .string tx, .int .i64 us] 35)) (((Ext.refl w2).alloc (.cells #[.int .i64 ch, .string tg, .string tx, .int .i64 us] 35)).block (Array.getElem?_eq_some_iff.1 hb2).1 |>.trans hb2)))
      clear hr2 hg2 hx2 hb2
      go_wp2_with fail
      (with_reducible refine (H3.out q A c _ Z2.out.1).mono ?_)
      rintro e w3 ⟨rfl, hx3⟩
      have hb3 := (hx3.block (b := w2.heap.size) (by simp)).trans (heap_new w2 _)
      have d0 := (cells_at hb3).1 0 _ rfl
      have d1 := (cells_at hb3).1 1 _ rfl
      have d2 := (cells_at hb3).1 2 _ rfl
      have d3 := (cells_at hb3).1 3 _ rfl
      have hb4 := (hx3.block (Array.getElem?_eq_some_iff.1 Z2.out.2.2).1).trans Z2.out.2.2
      have c0 := (cells_at hb4).1 0 _ rfl
      have c1 := (cells_at hb4).1 1 _ rfl
      have c2 := (cells_at hb4).1 2 _ rfl
      have c3 := (cells_at hb4).1 3 _ rfl
      have f0 := (cells_at hb4).2 0
      have f1 := (cells_at hb4).2 1
      have f2 := (cells_at hb4).2 2
      have f3 := (cells_at hb4).2 3
      simp only [List.getElem_toArray, List.getElem_cons_zero, List.getElem_cons_succ] at c0 c1 c2 c3 d0 d1 d2 d3
      have Z3 := Lib.hid (And.intro (Z2.out.2.1.trans hx3) hb4)
      clear hx3 hb3 hb4
      go_wp2_with fail
      (with_reducible refine (H4.out _).mono ?_)
      rintro e w4 ⟨rfl, hx4⟩
      have hb5 := (hx4.block (Array.getElem?_eq_some_iff.1 Z3.out.2).1).trans Z3.out.2
      have g0 := (cells_at hb5).1 0 _ rfl
      have g1 := (cells_at hb5).1 1 _ rfl
      have g2 := (cells_at hb5).1 2 _ rfl
      have g3 := (cells_at hb5).1 3 _ rfl
      have k0' := (cells_at hb5).2 0
      have k1' := (cells_at hb5).2 1
      have k2' := (cells_at hb5).2 2
      have k3' := (cells_at hb5).2 3
      have e0 := hx4.cell_some d0
      have e1 := hx4.cell_some d1
      have e2 := hx4.cell_some d2
      have e3 := hx4.cell_some d3
      simp only [List.getElem_toArray, List.getElem_cons_zero, List.getElem_cons_succ] at g0 g1 g2 g3
      have Z4 := Lib.hid (And.intro (Z3.out.1.trans hx4) hb5)
      clear hx4 hb5 c0 c1 c2 c3 f0 f1 f2 f3 d0 d1 d2 d3
      go_wp2_with fail
      refine bodyPost_ret (results_cell_row_tmp rfl _ _ w.heap.size 35 _ (0, 0) _ rfl (set4 Z4.out.2 _ _ _ _) Tryz.underlying35 rfl (by kernel_rfl)) rfl ⟨rfl, ?_⟩
      exact (((Z4.out.1.setCell (Nat.le_refl _) _).setCell (Nat.le_refl _) _).setCell (Nat.le_refl _) _).setCell (Nat.le_refl _) _
    · have h2' : (k2 != 0) = true := by simpa using h2
      have H := HD.out
      rw [if_pos (.inr h2)] at H
      subst H
      clear HD h1 h2
      simp only [outZ]
      go_enter Tryz.func36, Tryz.ntmps36
      go_wp2_with fail
      (with_reducible refine (H1.out _ _ HRd.out).mono ?_)
      rintro e w1 ⟨q, rfl, hq, ⟨A, c, hr1⟩, hx1⟩
      have hqs := (Array.getElem?_eq_some_iff.1 hr1.1).1
      have hsz1 := hx1.size
      have hszw := HE.out.1.size
      have Z1 := Lib.hid (And.intro hr1 hx1)
      clear hr1 hx1
      go_wp2_with fail
      (with_reducible refine (H2.out q A c _ Z1.out.1 hqs).mono ?_)
      rintro e w2 ⟨rfl, hr2, hg2⟩
      have hx2 : Ext w w2 := Below.grown (HE.out.1.trans Z1.out.2) hg2 (by omega) (fun k e => by cases e; omega)
      have hb2 := (hg2.block w.heap.size (by have := (Array.getElem?_eq_some_iff.1 HE.out.2).1; omega) (by have := (Array.getElem?_eq_some_iff.1 HE.out.2).1; simp; omega)).trans ((Z1.out.2.block (Array.getElem?_eq_some_iff.1 HE.out.2).1).trans HE.out.2)
      have Z2 := Lib.hid (And.intro (hr2.kept ((Ext.refl w2).alloc (.cells #[.int .i64 ch, .string tg, .string tx, .int .i64 us] 35))) (And.intro (hx2.alloc (.cells #[.int .i64 ch, .string tg, .string tx, .int .i64 us] 35)) (((Ext.refl w2).alloc (.cells #[.int .i64 ch, .string tg, .string tx, .int .i64 us] 35)).block (Array.getElem?_eq_some_iff.1 hb2).1 |>.trans hb2)))
      clear hr2 hg2 hx2 hb2
      go_wp2_with fail
      (with_reducible refine (H3.out q A c _ Z2.out.1).mono ?_)
      rintro e w3 ⟨rfl, hx3⟩
      have hb3 := (hx3.block (b := w2.heap.size) (by simp)).trans (heap_new w2 _)
      have d0 := (cells_at hb3).1 0 _ rfl
      have d1 := (cells_at hb3).1 1 _ rfl
      have d2 := (cells_at hb3).1 2 _ rfl
      have d3 := (cells_at hb3).1 3 _ rfl
      have hb4 := (hx3.block (Array.getElem?_eq_some_iff.1 Z2.out.2.2).1).trans Z2.out.2.2
      have c0 := (cells_at hb4).1 0 _ rfl
      have c1 := (cells_at hb4).1 1 _ rfl
      have c2 := (cells_at hb4).1 2 _ rfl
      have c3 := (cells_at hb4).1 3 _ rfl
      have f0 := (cells_at hb4).2 0
      have f1 := (cells_at hb4).2 1
      have f2 := (cells_at hb4).2 2
      have f3 := (cells_at hb4).2 3
      simp only [List.getElem_toArray, List.getElem_cons_zero, List.getElem_cons_succ] at c0 c1 c2 c3 d0 d1 d2 d3
      have Z3 := Lib.hid (And.intro (Z2.out.2.1.trans hx3) hb4)
      clear hx3 hb3 hb4
      go_wp2_with fail
      (with_reducible refine (H4.out _).mono ?_)
      rintro e w4 ⟨rfl, hx4⟩
      have hb5 := (hx4.block (Array.getElem?_eq_some_iff.1 Z3.out.2).1).trans Z3.out.2
      have g0 := (cells_at hb5).1 0 _ rfl
      have g1 := (cells_at hb5).1 1 _ rfl
      have g2 := (cells_at hb5).1 2 _ rfl
      have g3 := (cells_at hb5).1 3 _ rfl
      have k0' := (cells_at hb5).2 0
      have k1' := (cells_at hb5).2 1
      have k2' := (cells_at hb5).2 2
      have k3' := (cells_at hb5).2 3
      have e0 := hx4.cell_some d0
      have e1 := hx4.cell_some d1
      have e2 := hx4.cell_some d2
      have e3 := hx4.cell_some d3
      simp only [List.getElem_toArray, List.getElem_cons_zero, List.getElem_cons_succ] at g0 g1 g2 g3
      have Z4 := Lib.hid (And.intro (Z3.out.1.trans hx4) hb5)
      clear hx4 hb5 c0 c1 c2 c3 f0 f1 f2 f3 d0 d1 d2 d3
      go_wp2_with fail
      refine bodyPost_ret (results_cell_row_tmp rfl _ _ w.heap.size 35 _ (0, 0) _ rfl (set4 Z4.out.2 _ _ _ _) Tryz.underlying35 rfl (by kernel_rfl)) rfl ⟨rfl, ?_⟩
      exact (((Z4.out.1.setCell (Nat.le_refl _) _).setCell (Nat.le_refl _) _).setCell (Nat.le_refl _) _).setCell (Nat.le_refl _) _
  · have h1' : (k1 != 0) = true := by simpa using h1
    have H := HD.out
    rw [if_pos (.inl h1)] at H
    subst H
    clear HD h1
    simp only [outZ]
    go_enter Tryz.func36, Tryz.ntmps36
    go_wp2_with fail
    (with_reducible refine (H1.out _ _ HRd.out).mono ?_)
    rintro e w1 ⟨q, rfl, hq, ⟨A, c, hr1⟩, hx1⟩
    have hqs := (Array.getElem?_eq_some_iff.1 hr1.1).1
    have hsz1 := hx1.size
    have hszw := HE.out.1.size
    have Z1 := Lib.hid (And.intro hr1 hx1)
    clear hr1 hx1
    go_wp2_with fail
    (with_reducible refine (H2.out q A c _ Z1.out.1 hqs).mono ?_)
    rintro e w2 ⟨rfl, hr2, hg2⟩
    have hx2 : Ext w w2 := Below.grown (HE.out.1.trans Z1.out.2) hg2 (by omega) (fun k e => by cases e; omega)
    have hb2 := (hg2.block w.heap.size (by have := (Array.getElem?_eq_some_iff.1 HE.out.2).1; omega) (by have := (Array.getElem?_eq_some_iff.1 HE.out.2).1; simp; omega)).trans ((Z1.out.2.block (Array.getElem?_eq_some_iff.1 HE.out.2).1).trans HE.out.2)
    have Z2 := Lib.hid (And.intro (hr2.kept ((Ext.refl w2).alloc (.cells #[.int .i64 ch, .string tg, .string tx, .int .i64 us] 35))) (And.intro (hx2.alloc (.cells #[.int .i64 ch, .string tg, .string tx, .int .i64 us] 35)) (((Ext.refl w2).alloc (.cells #[.int .i64 ch, .string tg, .string tx, .int .i64 us] 35)).block (Array.getElem?_eq_some_iff.1 hb2).1 |>.trans hb2)))
    clear hr2 hg2 hx2 hb2
    go_wp2_with fail
    (with_reducible refine (H3.out q A c _ Z2.out.1).mono ?_)
    rintro e w3 ⟨rfl, hx3⟩
    have hb3 := (hx3.block (b := w2.heap.size) (by simp)).trans (heap_new w2 _)
    have d0 := (cells_at hb3).1 0 _ rfl
    have d1 := (cells_at hb3).1 1 _ rfl
    have d2 := (cells_at hb3).1 2 _ rfl
    have d3 := (cells_at hb3).1 3 _ rfl
    have hb4 := (hx3.block (Array.getElem?_eq_some_iff.1 Z2.out.2.2).1).trans Z2.out.2.2
    have c0 := (cells_at hb4).1 0 _ rfl
    have c1 := (cells_at hb4).1 1 _ rfl
    have c2 := (cells_at hb4).1 2 _ rfl
    have c3 := (cells_at hb4).1 3 _ rfl
    have f0 := (cells_at hb4).2 0
    have f1 := (cells_at hb4).2 1
    have f2 := (cells_at hb4).2 2
    have f3 := (cells_at hb4).2 3
    simp only [List.getElem_toArray, List.getElem_cons_zero, List.getElem_cons_succ] at c0 c1 c2 c3 d0 d1 d2 d3
    have Z3 := Lib.hid (And.intro (Z2.out.2.1.trans hx3) hb4)
    clear hx3 hb3 hb4
    go_wp2_with fail
    refine bodyPost_ret (results_cell_row_tmp rfl _ _ w.heap.size 35 _ (0, 0) _ rfl (set4 Z3.out.2 _ _ _ _) Tryz.underlying35 rfl (by kernel_rfl)) rfl ⟨rfl, ?_⟩
    exact (((Z3.out.1.setCell (Nat.le_refl _) _).setCell (Nat.le_refl _) _).setCell (Nat.le_refl _) _).setCell (Nat.le_refl _) _
end Go.Proofs.YtehmgeodpjmfaaaGreatDoor
