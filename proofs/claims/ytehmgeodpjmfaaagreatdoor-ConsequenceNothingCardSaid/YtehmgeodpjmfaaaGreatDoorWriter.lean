/- codec: Writer. -/
import Derived.Deep.AppendLies
import Derived.Test.YtehmgeodpjmfaaaGreatDoorNat
import Derived.Test.YtehmgeodpjmfaaaGreatDoorApp
import Derived.Test.YtehmgeodpjmfaaaGreatDoorParts
namespace Go.Proofs.YtehmgeodpjmfaaaGreatDoor
open Go.RowKit

/-- A writer at block b that has written l; its bytes' row v lies at b or behind. -/
def WAt (w : World) (b : Nat) (l : List UInt8) (v : Value) : Prop :=
  w.heap[b]? = some (Obj.cells #[v, .int .i64 0] 167 (0, 0)) ∧ w.ownsRow b 5 1 v l.length (l.flatMap encB)
/-- What a writer's call leaves: all but its block and its row. -/
structure Fr (b : Nat) (v : Value) (w w' : World) : Prop where
  os : w'.os = w.os
  tape : w'.tape = w.tape
  output : w'.output = w.output
  size : w.heap.size ≤ w'.heap.size
  block : ∀ k, k < w.heap.size → k ≠ b → some k ≠ v.ownBlock → w'.heap[k]? = w.heap[k]?
def Own2 (n : Nat) (v v' : Value) : Prop := v'.ownBlock = v.ownBlock ∨ ∃ k, n ≤ k ∧ v'.ownBlock = some k
theorem Fr.refl (b : Nat) (v : Value) (w : World) : Fr b v w w := ⟨rfl, rfl, rfl, Nat.le_refl _, fun _ _ _ _ => rfl⟩
theorem Fr.trans {b : Nat} {v v' : Value} {w w' w'' : World} (h : Fr b v w w') (k : Fr b v' w' w'') (ho : Own2 w.heap.size v v') : Fr b v w w'' :=
  ⟨k.os.trans h.os, k.tape.trans h.tape, k.output.trans h.output, Nat.le_trans h.size k.size, fun j hj hb hv => by
    rw [k.block j (by have := h.size; omega) hb ?_, h.block j hj hb hv]
    rcases ho with ho | ⟨g, hg, ho⟩
    · rw [ho]; exact hv
    · rw [ho]; intro e; cases e; omega⟩
theorem Fr.cell {b : Nat} {v : Value} {w w' : World} (h : Fr b v w w') {p : Addr} {x : Value} (hb : p.block ≠ b) (hv : some p.block ≠ v.ownBlock) (hc : w.cell? p = some x) : w'.cell? p = some x := by
  have hlt := World.block_lt_of_cell? _ _ hc
  rw [World.cell?_of_block (h.block p.block hlt hb hv)]; exact hc
/-- A part's bytes lie at a value, apart from the writer's own. -/
def PartAt (w : World) (b : Nat) (v : Value) (x : Value) (l : List UInt8) : Prop :=
  ∃ cb c, x = .slice (some ⟨cb, 0, none⟩) l.length c ∧ cb < w.heap.size ∧ cb ≠ b ∧ some cb ≠ v.ownBlock ∧ ∀ i u, (l.flatMap encB)[i]? = some u → w.cell? ⟨cb, i, none⟩ = some u
def PartsAt (w : World) (b : Nat) (v : Value) (pv : Value) (ps : List (List UInt8)) : Prop :=
  ∃ pb pc, pv = .slice (some ⟨pb, 0, none⟩) ps.length pc ∧ pb ≠ b ∧ some pb ≠ v.ownBlock ∧ ∀ j (h : j < ps.length), ∃ x, w.cell? ⟨pb, j, none⟩ = some x ∧ PartAt w b v x ps[j]

theorem WAt.ne {w : World} {b : Nat} {l : List UInt8} {v : Value} (h : WAt w b l v) : v.ownBlock ≠ some b := by
  rcases h.2.2 with ⟨rfl, _⟩ | ⟨g, cap, cur, rfl, _, hg, _⟩
  · simp [Value.ownBlock]
  · simp only [Value.ownBlock, ne_eq, Option.some.injEq]
    rintro rfl
    rw [h.1] at hg; cases hg
theorem WAt.row {w w1 : World} {b : Nat} {l l' : List UInt8} {v v' : Value} (h : WAt w b l v) (hg : w.grownBy w1 v.ownBlock) (ho : w1.ownsRow b 5 1 v' l'.length (l'.flatMap encB)) (hv : v'.ownBlock = v.ownBlock ∨ v'.ownBlock = some w.heap.size) :
    w1.cell? ⟨b, 0, none⟩ = some v ∧ w1.frozen? ⟨b, 0, none⟩ = false ∧ WAt (w1.setCell ⟨b, 0, none⟩ v') b l' v' ∧ Fr b v w (w1.setCell ⟨b, 0, none⟩ v') ∧ Own2 w.heap.size v v' := by
  have hlt := (Array.getElem?_eq_some_iff.1 h.1).1
  have hb : w1.heap[b]? = some (Obj.cells #[v, .int .i64 0] 167 (0, 0)) := (hg.block b hlt (fun e => h.ne e.symm)).trans h.1
  have hs : (w1.setCell ⟨b, 0, none⟩ v').heap[b]? = some (Obj.cells #[v', .int .i64 0] 167 (0, 0)) := heap_setCell_at hb v'
  have hne : v'.ownBlock ≠ some b := by
    rcases hv with hv | hv
    · rw [hv]; exact h.ne
    · rw [hv]; intro e; cases e; omega
  refine ⟨(cells_at hb).1 0 _ rfl, (cells_at hb).2 0, ⟨hs, ho.kept (grownBy_setCell' w1 b v') (.inr hne)⟩, ⟨?_, ?_, ?_, ?_, ?_⟩, ?_⟩
  · exact (grownBy_setCell' w1 b v').os.trans hg.os
  · exact (grownBy_setCell' w1 b v').tape.trans hg.tape
  · exact (grownBy_setCell' w1 b v').output.trans hg.output
  · exact Nat.le_trans hg.size (grownBy_setCell' w1 b v').size
  · intro k hk hkb hkv
    rw [Below.heap_setCell _ _ _ _ (by simpa using hkb)]
    exact hg.block k hk hkv
  · rcases hv with hv | hv
    · exact .inl hv
    · exact .inr ⟨_, Nat.le_refl _, hv⟩

theorem Own2.trans {n m : Nat} {v v' v'' : Value} (h : Own2 n v v') (k : Own2 m v' v'') (hm : n ≤ m) : Own2 n v v'' := by
  rcases k with k | ⟨g, hg, k⟩
  · rcases h with h | ⟨g, hg, h⟩
    · exact .inl (k.trans h)
    · exact .inr ⟨g, hg, k.trans h⟩
  · exact .inr ⟨g, by omega, k⟩
theorem WAt.set1 {w : World} {b : Nat} {l : List UInt8} {v : Value} (h : WAt w b l v) : WAt (w.setCell ⟨b, 1, none⟩ (.int .i64 0)) b l v ∧ Fr b v w (w.setCell ⟨b, 1, none⟩ (.int .i64 0)) ∧ Own2 w.heap.size v v :=
  ⟨⟨heap_setCell_at h.1 _, h.2.kept (row := some b) ⟨rfl, rfl, rfl, by simp, fun k _ hk => Below.heap_setCell _ _ _ _ (by simpa using hk)⟩ (.inr h.ne)⟩, ⟨rfl, rfl, rfl, by simp, fun k _ hkb _ => Below.heap_setCell _ _ _ _ (by simpa using hkb)⟩, .inl rfl⟩
theorem PartAt.fr {w w' : World} {b : Nat} {v x : Value} {l : List UInt8} (h : PartAt w b v x l) (hf : Fr b v w w') :
    ∃ cb c, x = .slice (some ⟨cb, 0, none⟩) l.length c ∧ ∀ i u, (l.flatMap encB)[i]? = some u → w'.cell? ((⟨cb, 0, none⟩ : Addr).add i) = some u := by
  obtain ⟨cb, c, hx, h1, h2, h3, h4⟩ := h
  refine ⟨cb, c, hx, fun i u hu => ?_⟩
  have hadd : (⟨cb, 0, none⟩ : Addr).add i = ⟨cb, i, none⟩ := by unfold Addr.add; split <;> simp_all
  rw [hadd]
  exact hf.cell (p := ⟨cb, i, none⟩) h2 h3 (h4 i u hu)
theorem ownsRow_slice {w : World} {b sz n : Nat} {e : TypeId} {v : Value} {xs : List Value} (h : w.ownsRow b e sz v n xs) : ∃ A k c, v = .slice A k c := by
  rcases h.2 with ⟨rfl, _⟩ | ⟨g, cap, cur, rfl, _⟩
  · exact ⟨_, _, _, rfl⟩
  · exact ⟨_, _, _, rfl⟩
theorem encB_len (l : List UInt8) : (l.flatMap encB).length = l.length := by induction l with
  | nil => rfl
  | cons x l ih => simp [List.flatMap_cons, encB, ih]
theorem encB_one (l : List UInt8) : ∀ u ∈ l.flatMap encB, u.oneCell' = true := by
  intro u hu
  obtain ⟨x, _, hx⟩ := List.mem_flatMap.1 hu
  simp [encB] at hx; subst hx; rfl
theorem take_flat (ps : List (List UInt8)) (j : Nat) (h : j < ps.length) : (ps.take (j + 1)).flatten = (ps.take j).flatten ++ ps[j] := by
  rw [List.take_add_one, List.getElem?_eq_getElem h, Option.toList_some, List.flatten_append, List.flatten_cons, List.flatten_nil, List.append_nil]
theorem take_flat_le (ps : List (List UInt8)) (j : Nat) (h : j < ps.length) : (ps.take j).flatten.length + ps[j].length ≤ ps.flatten.length := by
  have h1 := take_flat ps j h
  have h2 : ((ps.take (j + 1)) ++ (ps.drop (j + 1))).flatten.length = ps.flatten.length := by rw [List.take_append_drop]
  rw [List.flatten_append, h1, List.length_append, List.length_append] at h2
  omega

set_option maxHeartbeats 8000000 in
set_option maxRecDepth 100000 in
theorem write_any (b : Nat) (l : List UInt8) (v : Value) (ps : List (List UInt8)) (pv : Value) (w : World) (hW : WAt w b l v) (hP : PartsAt w b v pv ps) (hl : l.length + ps.flatten.length ≤ 1000000000) (hpn : ps.length ≤ 1000000000) :
    Calls Tryz.prog 108 #[.pointer (some ⟨b, 0, none⟩), .int .i64 0, pv] w fun e w' => (∃ r, e = .returned r) ∧ ∃ v', WAt w' b (l ++ ps.flatten) v' ∧ Fr b v w w' ∧ Own2 w.heap.size v v' := by
  obtain ⟨i0, hi, hz0, hz1, hz2⟩ := info_parts info_byte
  obtain ⟨pb, pc, rfl, hpb, hpv, hp⟩ := hP
  have c0 := (cells_at hW.1).1 0 _ rfl
  have c1 := (cells_at hW.1).1 1 _ rfl
  have f1 := (cells_at hW.1).2 1
  have HW := Lib.hid hW
  have HP := Lib.hid hp
  clear hW hp
  go_enter Tryz.func108, Tryz.ntmps108
  go_wp2_with fail
  go_loopg [25] ps.length (fun g a wx => ∃ (j : Nat) (vj : Value), a = .int .i64 j ∧ j + g = ps.length ∧ Aside (WAt wx b (l ++ (ps.take j).flatten) vj ∧ Fr b v w wx ∧ Own2 w.heap.size v vj))
  case atStart => exact ⟨0, v, rfl, by omega, by simpa using HW.out.set1.1, HW.out.set1.2.1, .inl rfl⟩
  case round =>
    obtain ⟨j, vj, rfl, hj, hA⟩ := hrel
    by_cases hlt : j < ps.length
    · obtain ⟨x, hx, hpx⟩ := HP.out j hlt
      have cx := hA.out.2.1.cell (p := ⟨pb, j, none⟩) hpb hpv hx
      obtain ⟨cb, c, rfl, hcs⟩ := hpx.fr hA.out.2.1
      have d0 := (cells_at hA.out.1.1).1 0 _ rfl
      have hlj := take_flat_le ps j hlt
      have hll : (l ++ (ps.take j).flatten).length + ps[j].length ≤ 1000000000 := by rw [List.length_append]; omega
      have hjj : (j : Int) < (ps.length : Int) := by omega
      simp only [List.getElem_toArray, List.getElem_cons_zero] at d0
      go_wp2_with (at_builtin; (refine wpList_append_own_at _ rfl _ _ 46 rfl b 5 i0 (.int .u8 0) 1 1 Tryz.underlying46 hi hz0 hz1 hz2 rfl (by decide) vj _ _ rfl hA.out.1.2 ⟨cb, 0, none⟩ ps[j].length c (ps[j].flatMap encB) rfl (by rw [encB_len]; omega) hcs (encB_one _) (by unfold maxLen; omega) (by omega) (by have := (Array.getElem?_eq_some_iff.1 hA.out.1.1).1; omega) ?_; intro v' w1 hown' hgrow _ hat; obtain ⟨A', n', c', rfl⟩ := ownsRow_slice hown'; obtain ⟨e0, g0, hW', hF', hO'⟩ := hA.out.1.row (l' := (l ++ (ps.take j).flatten) ++ ps[j]) hgrow (by rw [List.length_append (bs := ps[j]), List.flatMap_append (ys := ps[j])]; exact hown') hat; have HZ := Lib.hid (And.intro hW' (And.intro hF' hO')); clear hW' hF' hO' hown' hgrow hat))
      go_roundg (ps.length - (j + 1))
      case measure => omega
      case rel =>
        obtain ⟨hW', hF', hO'⟩ := HZ.out
        refine ⟨j + 1, _, rfl, by omega, by rw [take_flat ps j hlt, ← List.append_assoc]; exact hW', hA.out.2.1.trans hF' hA.out.2.2, hA.out.2.2.trans hO' hA.out.2.1.size⟩
    · obtain rfl : j = ps.length := by omega
      go_wp2_with fail
      refine bodyPost_end (results_none rfl _ _ _) rfl ?_
      exact ⟨⟨_, rfl⟩, vj, by have := hA.out.1; rwa [List.take_length] at this, hA.out.2.1, hA.out.2.2⟩
theorem Fr.of_ext {b : Nat} {v : Value} {w w' : World} (h : Ext w w') : Fr b v w w' := ⟨Below.os h, Below.tape h, Below.output h, h.size, fun _ hk _ _ => h.block hk⟩
theorem WAt.ext {w w' : World} {b : Nat} {l : List UInt8} {v : Value} (h : WAt w b l v) (hx : Ext w w') : WAt w' b l v :=
  ⟨(hx.block (Array.getElem?_eq_some_iff.1 h.1).1).trans h.1, h.2.kept (grownBy_of_ext hx) (by rcases v.ownBlock with _ | g; exact .inl rfl; exact .inr (by simp))⟩
theorem WAt.own_lt {w : World} {b : Nat} {l : List UInt8} {v : Value} (h : WAt w b l v) {k : Nat} (hk : v.ownBlock = some k) : k < w.heap.size := by
  rcases h.2.2 with ⟨rfl, _⟩ | ⟨g, cap, cur, rfl, _, hg, _⟩
  · cases hk
  · cases hk; exact (Array.getElem?_eq_some_iff.1 hg).1
theorem natL_pos (n : Nat) : 0 < (natL n).length := by rw [natL]; split <;> simp
theorem row_cells {w : World} {b : Nat} {l : List UInt8} {v : Value} (h : w.ownsRow b 5 1 v l.length (l.flatMap encB)) (hl : 0 < l.length) :
    ∃ g c, v = .slice (some ⟨g, 0, none⟩) l.length c ∧ b ≤ g ∧ g < w.heap.size ∧ ∀ i u, (l.flatMap encB)[i]? = some u → w.cell? ⟨g, i, none⟩ = some u := by
  rcases h.2 with ⟨rfl, h0⟩ | ⟨g, cap, cur, rfl, hb, hg, h1, h2, h3, h4⟩
  · omega
  · refine ⟨g, cap, rfl, hb, (Array.getElem?_eq_some_iff.1 hg).1, fun i u hu => ?_⟩
    have hlt : i < l.length * 1 := by
      have := (List.getElem?_eq_some_iff.1 hu).1
      rw [encB_len] at this; omega
    have hc : cur[i]? = some u := by
      rw [← Array.getElem?_toList]
      have : (cur.toList.take (l.length * 1))[i]? = some u := by rw [h4, hu]
      rwa [List.getElem?_take_of_lt hlt] at this
    simp only [World.cell?, hg, Option.isSome_none, Bool.false_eq_true, if_false]
    exact hc
theorem newWriter_any (w : World) : Calls Tryz.prog 55 #[] w fun e w' => e = .returned (.pointer (some ⟨w.heap.size, 0, none⟩)) ∧ WAt w' w.heap.size [] (.slice none 0 0) ∧ Ext w w' := by
  go_enter Tryz.func55, Tryz.ntmps55
  go_wp2
  go_ret
  exact ⟨rfl, ⟨heap_new w _, World.ownsRow_nil _ _ _ _⟩, (Ext.refl w).alloc _⟩

set_option maxHeartbeats 8000000 in
set_option maxRecDepth 100000 in
theorem number_w (b : Nat) (l : List UInt8) (v : Value) (n : Nat) (hn : n < 9223372036854775808) (w : World) (hW : WAt w b l v) (hl : l.length ≤ 900000000) :
    Calls Tryz.prog 81 #[.pointer (some ⟨b, 0, none⟩), .int .i64 n] w fun e w' => (∃ r, e = .returned r) ∧ ∃ v', WAt w' b (l ++ natL n) v' ∧ Fr b v w w' ∧ Own2 w.heap.size v v' := by
  have HW := Lib.hid hW
  have hbl := (Array.getElem?_eq_some_iff.1 hW.1).1
  have hlen : (natL n).length ≤ 10 := natL_len 10 n (by omega) (by omega)
  have hn0 : ((n : Int) < 0) = False := by simp
  clear hW
  go_enter Tryz.func81, Tryz.ntmps81
  go_wp2_with (first
    | (go_at_call 109; refine (natural_any n (by omega) _).mono ?_; rintro e w2 ⟨nv, rfl, hrow, hx⟩; obtain ⟨g, c, rfl, hg1, hg2, hg3⟩ := row_cells hrow (natL_pos n); have HG := Lib.hid hg3; clear hrow hg3)
    | (go_at_call 108; refine (write_any b l v [natL n] _ _ ((HW.out.ext hx).ext ((Ext.refl w2).alloc _)) ⟨w2.heap.size, _, rfl, by have := hx.size; omega, (fun e => by have := HW.out.own_lt e.symm; have := hx.size; omega), (fun j hj => by
        obtain rfl : j = 0 := by simpa using hj
        exact ⟨_, (cells_at (heap_new w2 _)).1 0 _ rfl, g, _, rfl, by simp; omega, by omega, (fun e => by have := HW.out.own_lt e.symm; omega), fun i u hu => ((Ext.refl w2).alloc _).cell_some (HG.out i u hu)⟩)⟩ (by simp; omega) (by simp)).mono ?_; rintro e w3 ⟨⟨r, rfl⟩, v', hW', hF', hO'⟩))
  refine bodyPost_end (results_none rfl _ _ _) rfl ?_
  have hX : Ext w (w2.alloc (Obj.cells #[Value.slice (some { block := g, off := 0 }) (natL n).length c] 46)) := Ext.alloc hx _
  exact ⟨⟨_, rfl⟩, v', by simpa using hW', (Fr.of_ext hX).trans hF' (.inl rfl), Own2.trans (.inl rfl) hO' hX.size⟩

theorem conv_bytes (w : World) (s : ByteArray) : ∃ W cp, (convert 9 46 (.string s)).run Tryz.prog w = .ok (.slice (some ⟨w.heap.size, 0, none⟩) s.size cp) W ∧ Ext w W ∧ (∀ i u, (s.data.toList.flatMap encB)[i]? = some u → W.cell? ⟨w.heap.size, i, none⟩ = some u) ∧ W.heap.size = w.heap.size + 1 := by
  refine ⟨_, _, Lib.run_convert_string_bytes (P := Tryz.prog) w 9 46 5 s (u := .string) Tryz.underlying9 Tryz.underlying46 Tryz.underlying5, ⟨rfl, rfl, rfl, by rw [Lib.bytesWorld_size]; omega, fun b hb => Lib.bytesWorld_at_old w _ s b hb⟩, fun i u hu => ?_, Lib.bytesWorld_size w _ s⟩
  have hi : i < s.data.toList.length := by
    have := (List.getElem?_eq_some_iff.1 hu).1
    rwa [encB_len] at this
  rw [Lib.bytesWorld_cell w 5 s i hi]
  have := flat_get encB (fun _ => rfl) s.data.toList i 0 hi (sz := 1) (by omega)
  simp only [Nat.mul_one, Nat.add_zero] at this
  rw [this] at hu
  simp [encB] at hu
  rw [← hu, List.getD_eq_getElem?_getD, List.getElem?_eq_getElem hi]
  rfl

theorem parts2 {w w2 W3 : World} {b g c cp : Nat} {l : List UInt8} {v : Value} {s : ByteArray} (hW : WAt w b l v) (hx : Ext w w2) (hE : Ext w2 W3) (hS : W3.heap.size = w2.heap.size + 1) (hg1 : w.heap.size ≤ g) (hg2 : g < w2.heap.size)
    (HG : ∀ i u, ((natL s.size).flatMap encB)[i]? = some u → w2.cell? ⟨g, i, none⟩ = some u) (HB : ∀ i u, (s.data.toList.flatMap encB)[i]? = some u → W3.cell? ⟨w2.heap.size, i, none⟩ = some u) (X : World)
    (hX : X = W3.alloc (.cells #[.slice (some ⟨g, 0, none⟩) (natL s.size).length c, .slice (some ⟨w2.heap.size, 0, none⟩) s.size cp] 46)) :
    WAt X b l v ∧ PartsAt X b v (.slice (some ⟨W3.heap.size, 0, none⟩) 2 2) [natL s.size, s.data.toList] ∧ Ext w X := by
  subst hX
  have hbl := (Array.getElem?_eq_some_iff.1 hW.1).1
  have h1 := hx.size
  have hX : Ext W3 (W3.alloc (.cells #[.slice (some ⟨g, 0, none⟩) (natL s.size).length c, .slice (some ⟨w2.heap.size, 0, none⟩) s.size cp] 46)) := (Ext.refl W3).alloc _
  have hn := heap_new W3 (.cells #[.slice (some ⟨g, 0, none⟩) (natL s.size).length c, .slice (some ⟨w2.heap.size, 0, none⟩) s.size cp] 46)
  refine ⟨((hW.ext hx).ext hE).ext hX, ⟨W3.heap.size, 2, rfl, by omega, (fun e => by have := hW.own_lt e.symm; omega), fun j hj => ?_⟩, (hx.trans hE).trans hX⟩
  rcases (show j = 0 ∨ j = 1 by simp at hj; omega) with rfl | rfl
  · exact ⟨_, (cells_at hn).1 0 _ rfl, g, c, rfl, by simp; omega, by omega, (fun e => by have := hW.own_lt e.symm; omega), fun i u hu => (hE.trans hX).cell_some (HG i u hu)⟩
  · exact ⟨_, (cells_at hn).1 1 _ rfl, w2.heap.size, cp, rfl, by simp; omega, by omega, (fun e => by have := hW.own_lt e.symm; omega), fun i u hu => hX.cell_some (HB i u hu)⟩

set_option maxHeartbeats 8000000 in
set_option maxRecDepth 100000 in
theorem text_w (b : Nat) (l : List UInt8) (v : Value) (s : ByteArray) (hs : s.size ≤ 16777216) (w : World) (hW : WAt w b l v) (hl : l.length ≤ 900000000) :
    Calls Tryz.prog 82 #[.pointer (some ⟨b, 0, none⟩), .string s] w fun e w' => (∃ r, e = .returned r) ∧ ∃ v', WAt w' b (l ++ (natL s.size ++ s.data.toList)) v' ∧ Fr b v w w' ∧ Own2 w.heap.size v v' := by
  have HW := Lib.hid hW
  have hbl := (Array.getElem?_eq_some_iff.1 hW.1).1
  have hlen : (natL s.size).length ≤ 10 := natL_len 10 s.size (by omega) (by omega)
  have hn0 : (16777216 < (s.size : Int)) = False := by simp; omega
  clear hW
  go_enter Tryz.func82, Tryz.ntmps82
  go_wp2_with (first
    | (go_at_call 109; refine (natural_any s.size (by omega) _).mono ?_; rintro e w2 ⟨nv, rfl, hrow, hx⟩; obtain ⟨g, c, rfl, hg1, hg2, hg3⟩ := row_cells hrow (natL_pos s.size); have HG := Lib.hid hg3; clear hrow hg3; obtain ⟨W3, cp, hcv, hE, hB, hS⟩ := conv_bytes w2 s; have HB := Lib.hid hB; clear hB; obtain ⟨hWx, hPx, hXx⟩ := parts2 (c := c) (cp := cp) HW.out hx hE hS hg1 hg2 HG.out HB.out _ rfl; have HX := Lib.hid (And.intro hWx (And.intro hPx hXx)); clear hWx hPx hXx hS hE)
    | (go_at_call 108; (with_reducible refine (write_any b l v [natL s.size, s.data.toList] _ _ HX.out.1 HX.out.2.1 ?_ ?_).mono ?_); (have h0 : s.data.toList.length = s.size := rfl; simp; omega); (simp); rintro e w3 ⟨⟨r, rfl⟩, v', hW', hF', hO'⟩))
  refine bodyPost_end (results_none rfl _ _ _) rfl ?_
  have hX := HX.out.2.2
  exact ⟨⟨_, rfl⟩, v', by simpa using hW', (Fr.of_ext hX).trans hF' (.inl rfl), Own2.trans (.inl rfl) hO' hX.size⟩

set_option maxHeartbeats 8000000 in
set_option maxRecDepth 100000 in
theorem bytes_w (b : Nat) (l : List UInt8) (v : Value) (w : World) (hW : WAt w b l v) (hl : l.length ≤ 900000000) :
    Calls Tryz.prog 57 #[.pointer (some ⟨b, 0, none⟩)] w fun e w' => ∃ x, e = .returned (.tuple #[x, .int .i64 0]) ∧ Rd w' 1 encB x l ∧ Ext w w' := by
  obtain ⟨i0, hi, hz0, hz1, hz2⟩ := info_parts info_byte
  have c0 := (cells_at hW.1).1 0 _ rfl
  have c1 := (cells_at hW.1).1 1 _ rfl
  simp only [List.getElem_toArray, List.getElem_cons_zero, List.getElem_cons_succ] at c0 c1
  have cA : ∀ o, (w.alloc o).cell? ⟨b, 0, none⟩ = some v := fun o => ((Ext.refl w).alloc o).cell_some c0
  have HV := Lib.hid (Rd.of_owns (enc := encB) (fun _ => rfl) hW.2)
  clear hW
  go_enter Tryz.func57, Tryz.ntmps57
  go_wp2_with (at_builtin; refine wpList_append_rd _ rfl _ _ 46 rfl w.heap.size 5 i0 (.int .u8 0) 1 1 Tryz.underlying46 hi hz0 hz1 hz2 rfl (by decide) _ 0 [] rfl (owns_empty w _ 1) encB (fun _ => rfl) (by simp [encB, Value.oneCell']) v l rfl (HV.out.ext ((Ext.refl w).alloc _)) (by unfold maxLen; omega) (by omega) (by simp) ?_; intro v' w1 hown' hgrow hat; have HR := Lib.hid (And.intro hown' hgrow); clear hown' hgrow hat)
  go_ret2
  have h1 := HR.out.1
  rw [Nat.zero_add, List.nil_append] at h1
  exact ⟨_, rfl, Rd.of_owns (enc := encB) (fun _ => rfl) h1, Below.grown ((Ext.refl w).alloc _) HR.out.2 (by simp) (fun k e => by cases e; simp)⟩
end Go.Proofs.YtehmgeodpjmfaaaGreatDoor
