/- output: Ledger: New, Leave, Len, Get. -/
import Derived.StillTailTactics
import Derived.Deep.RegionLaw
import Derived.Deep.AppendLies
import Derived.Test.YtehmgeodpjmfaaaGreatDoorLed
namespace Go.Proofs.YtehmgeodpjmfaaaGreatDoor
open Go.RowKit

theorem leftChk_any (x : LeftS) (b : List LeftS) (v : Value) (w : World) (hr : Rd w 9 encL v b) (hs : SizeL x) :
    Calls Tryz.prog 37 #[leftV x, v] w fun e w' => e = .returned (.int .i64 (leftChk b x)) ∧ Ext w w' := by
  unfold leftChk
  by_cases hv : validS x.ent.own.data.toList = false
  · rw [if_pos hv]; exact leftChk_valid x b v w hv hs
  rw [if_neg hv]
  have hv : validS x.ent.own.data.toList = true := by simpa using hv
  by_cases h0 : inR x.ent.num 1048576 = false
  · rw [if_pos (.inl h0)]; exact leftChk_r0 x b v w hr hs hv h0
  by_cases h1 : inR x.ent.tick 1073741824 = false
  · rw [if_pos (.inr (.inl h1))]; exact leftChk_r1 x b v w hr hs hv (by simpa using h0) h1
  by_cases h2 : inR x.at_ 1073741824 = false
  · rw [if_pos (.inr (.inr (.inl h2)))]; exact leftChk_r2 x b v w hr hs hv (by simpa using h0) (by simpa using h1) h2
  by_cases h3 : inR x.rnd 1048576 = false
  · rw [if_pos (.inr (.inr (.inr h3)))]; exact leftChk_r3 x b v w hr hs hv (by simpa using h0) (by simpa using h1) (by simpa using h2) h3
  rw [if_neg (by rintro (h | h | h | h); exact h0 h; exact h1 h; exact h2 h; exact h3 h)]
  have h0 : inR x.ent.num 1048576 = true := by simpa using h0
  have h1 : inR x.ent.tick 1073741824 = true := by simpa using h1
  have h2 : inR x.at_ 1073741824 = true := by simpa using h2
  have h3 : inR x.rnd 1048576 = true := by simpa using h3
  by_cases ho : x.ent.out.chk ≠ 0
  · rw [if_pos ho]; exact leftChk_o x b v w hr hs hv h0 h1 h2 h3 ho
  rw [if_neg ho]
  have ho : x.ent.out.chk = 0 := by simpa using ho
  rcases Nat.eq_zero_or_pos b.length with hb | hb
  · have hb : b = [] := List.length_eq_zero_iff.1 hb
    rw [if_neg (by rw [hb]; simp [ledOld]), if_neg (by rw [hb]; simp)]
    exact leftChk_e x b v w hr hs hv h0 h1 h2 h3 ho hb
  obtain ⟨y, hy⟩ : ∃ y, b.getLast? = some y := by
    cases h : b.getLast? with
    | none => rw [List.getLast?_eq_none_iff] at h; subst h; simp at hb
    | some y => exact ⟨y, rfl⟩
  have hl : ledOld b x = (decide (x.at_ < y.at_) || decide (x.rnd < y.rnd)) := by unfold ledOld; rw [hy]
  by_cases h5 : x.at_ < y.at_
  · rw [if_pos (by rw [hl]; simp [h5])]; exact leftChk_a x b v w hr hs hv h0 h1 h2 h3 ho y hb hy h5
  by_cases h6 : x.rnd < y.rnd
  · rw [if_pos (by rw [hl]; simp [h6])]; exact leftChk_b x b v w hr hs hv h0 h1 h2 h3 ho y hb hy h5 h6
  rw [if_neg (by rw [hl, decide_eq_false h5, decide_eq_false h6]; simp)]
  by_cases h7 : 100000 ≤ b.length
  · rw [if_pos h7]; exact leftChk_c x b v w hr hs hv h0 h1 h2 h3 ho y hb hy h5 h6 h7
  · rw [if_neg h7]; exact leftChk_d x b v w hr hs hv h0 h1 h2 h3 ho y hb hy h5 h6 h7

/-- A ledger at block p with the entries l, whose row is v. -/
def LAt (w : World) (p : Nat) (l : List LeftS) (v : Value) : Prop :=
  w.heap[p]? = some (Obj.cells #[v] 107 (0, 0)) ∧ w.ownsRow p 52 9 v l.length (l.flatMap encL)
theorem info_left : (Tryz.prog.info? 52).map (fun i => (i.zero, i.size, i.bytes)) = some (some (.agg #[.string ⟨#[]⟩, .int .i64 0, .int .i64 0, .int .i64 0, .string ⟨#[]⟩, .string ⟨#[]⟩, .int .i64 0, .int .i64 0, .int .i64 0]), 9, 96) := by kernel_rfl
theorem newLedger_any (w : World) : Calls Tryz.prog 17 #[] w fun e w' => e = .returned (.pointer (some ⟨w.heap.size, 0, none⟩)) ∧ LAt w' w.heap.size [] (.slice none 0 0) ∧ Ext w w' := by
  go_enter Tryz.func17, Tryz.ntmps17
  go_wp2
  go_ret
  exact ⟨rfl, ⟨heap_new w _, World.ownsRow_nil _ _ _ _⟩, (Ext.refl w).alloc _⟩
theorem LAt.ext {w w' : World} {p : Nat} {l : List LeftS} {v : Value} (h : LAt w p l v) (hx : Ext w w') : LAt w' p l v :=
  ⟨(hx.block (Array.getElem?_eq_some_iff.1 h.1).1).trans h.1, owns_ext h.2 hx⟩

theorem LAt.ne {w : World} {p : Nat} {l : List LeftS} {v : Value} (h : LAt w p l v) : v.ownBlock ≠ some p := by
  rcases h.2.2 with ⟨rfl, _⟩ | ⟨g, cap, cur, rfl, _, hg, _⟩
  · simp [Value.ownBlock]
  · simp only [Value.ownBlock, ne_eq, Option.some.injEq]
    rintro rfl
    rw [h.1] at hg; cases hg
theorem LAt.row {w w1 : World} {p : Nat} {l l' : List LeftS} {v v' : Value} (h : LAt w p l v) (hg : w.grownBy w1 v.ownBlock) (ho : w1.ownsRow p 52 9 v' l'.length (l'.flatMap encL)) (hv : v'.ownBlock = v.ownBlock ∨ v'.ownBlock = some w.heap.size) :
    w1.cell? ⟨p, 0, none⟩ = some v ∧ w1.frozen? ⟨p, 0, none⟩ = false ∧ LAt (w1.setCell ⟨p, 0, none⟩ v') p l' v' ∧ Fr p v w (w1.setCell ⟨p, 0, none⟩ v') ∧ Own2 w.heap.size v v' := by
  have hlt := (Array.getElem?_eq_some_iff.1 h.1).1
  have hb : w1.heap[p]? = some (Obj.cells #[v] 107 (0, 0)) := (hg.block p hlt (fun e => h.ne e.symm)).trans h.1
  have hs : (w1.setCell ⟨p, 0, none⟩ v').heap[p]? = some (Obj.cells #[v'] 107 (0, 0)) := heap_setCell_at hb v'
  have hne : v'.ownBlock ≠ some p := by
    rcases hv with hv | hv
    · rw [hv]; exact h.ne
    · rw [hv]; intro e; cases e; omega
  have hsg := setCell_grown w1 p 0 v'
  refine ⟨(cells_at hb).1 0 _ rfl, (cells_at hb).2 0, ⟨hs, ho.kept hsg (.inr hne)⟩, ⟨hsg.os.trans hg.os, hsg.tape.trans hg.tape, hsg.output.trans hg.output, Nat.le_trans hg.size hsg.size, ?_⟩, ?_⟩
  · intro k hk hkb hkv
    rw [Below.heap_setCell _ _ _ _ (by simpa using hkb)]
    exact hg.block k hk hkv
  · rcases hv with hv | hv
    · exact .inl hv
    · exact .inr ⟨_, Nat.le_refl _, hv⟩
theorem news_left (w : World) (b : Nat) (hb : b = w.heap.size) (x : LeftS) (o : Obj) (ho : o = .cells (encL x).toArray 52) : ∀ j u, (encL x)[j]? = some u → (w.alloc o).cell? ((⟨b, 0, none⟩ : Addr).add j) = some u := by
  subst hb ho
  exact World.news_of_block (cs := (encL x).toArray) (heap_new w _)

set_option maxHeartbeats 4000000 in
set_option maxRecDepth 100000 in
theorem leave_bad (p : Nat) (l : List LeftS) (v : Value) (x : LeftS) (hs : SizeL x) (hc : leftChk l x ≠ 0) (w : World) (h : LAt w p l v) :
    Calls Tryz.prog 18 #[.pointer (some ⟨p, 0, none⟩), leftV x] w fun e w' => e = .returned (.tuple #[.int .i64 0, .int .i64 (leftChk l x)]) ∧ Ext w w' := by
  have HC := Lib.hid (fun v W hr => leftChk_any x l v W hr hs)
  have hr := Rd.of_owns (enc := encL) (fun _ => rfl) h.2
  have c0 := (cells_at h.1).1 0 _ rfl
  simp only [List.getElem_toArray, List.getElem_cons_zero] at c0
  have HR := Lib.hid hr
  have hc' : (leftChk l x != 0) = true := by simpa using hc
  clear hs hr hc h
  generalize leftChk l x = k at HC hc' ⊢
  obtain ⟨⟨ow, nu, ti, ⟨ch, tg, tx, us⟩⟩, at_, rn⟩ := x
  simp only [leftV] at HC ⊢
  have c0' : ∀ o, (w.alloc o).cell? ⟨p, 0, none⟩ = some v := fun o => ((Ext.refl w).alloc o).cell_some c0
  go_enter Tryz.func18, Tryz.ntmps18
  go_wp2_with fail
  obtain ⟨W1, hW1⟩ : ∃ W1, w.alloc (.cells #[.string ow, .int .i64 nu, .int .i64 ti, .int .i64 ch, .string tg, .string tx, .int .i64 us, .int .i64 at_, .int .i64 rn] 52) = W1 := ⟨_, rfl⟩
  have hB : Ext w W1 := by rw [← hW1]; exact (Ext.refl w).alloc _
  have hb1 : W1.heap[w.heap.size]? = some (.cells #[.string ow, .int .i64 nu, .int .i64 ti, .int .i64 ch, .string tg, .string tx, .int .i64 us, .int .i64 at_, .int .i64 rn] 52 (0, 0)) := by rw [← hW1]; exact heap_new w _
  have d0 := (cells_at hb1).1 0 _ rfl
  have d1 := (cells_at hb1).1 1 _ rfl
  have d2 := (cells_at hb1).1 2 _ rfl
  have d3 := (cells_at hb1).1 3 _ rfl
  have d4 := (cells_at hb1).1 4 _ rfl
  have d5 := (cells_at hb1).1 5 _ rfl
  have d6 := (cells_at hb1).1 6 _ rfl
  have d7 := (cells_at hb1).1 7 _ rfl
  have d8 := (cells_at hb1).1 8 _ rfl
  simp only [List.getElem_toArray, List.getElem_cons_zero, List.getElem_cons_succ] at d0 d1 d2 d3 d4 d5 d6 d7 d8
  have d9 := hB.cell_some c0
  rw [hW1]
  clear hW1 c0 c0'
  go_still_tail 5, (by kernel_rfl)
  change wpList _ _ _ _ _ W1.drew
  have hB2 : Ext w W1.drew := hB.drew
  have hb2 : W1.drew.heap[w.heap.size]? = some (.cells #[.string ow, .int .i64 nu, .int .i64 ti, .int .i64 ch, .string tg, .string tx, .int .i64 us, .int .i64 at_, .int .i64 rn] 52 (0, 0)) := hb1
  generalize W1.drew = W2 at hB2 hb2 ⊢
  have HB2 := Lib.hid (And.intro hB2 hb2)
  clear hB2 hb2 hb1 hB d0 d1 d2 d3 d4 d5 d6 d7 d8 d9
  go_wp2_with fail
  (with_reducible refine (HC.out _ _ (HR.out.ext HB2.out.1)).mono ?_)
  rintro e w3 ⟨rfl, hx3⟩
  have HX3 := Lib.hid (HB2.out.1.trans hx3)
  clear hx3
  go_wp2_with fail
  go_ret2
  exact ⟨rfl, HX3.out⟩

set_option maxHeartbeats 4000000 in
set_option maxRecDepth 100000 in
theorem leave_ok (p : Nat) (l : List LeftS) (v : Value) (x : LeftS) (hs : SizeL x) (hc : leftChk l x = 0) (hlen : l.length ≤ 1000000) (w : World) (h : LAt w p l v) :
    Calls Tryz.prog 18 #[.pointer (some ⟨p, 0, none⟩), leftV x] w fun e w' => e = .returned (.tuple #[.int .i64 l.length, .int .i64 0]) ∧ ∃ v', LAt w' p (l ++ [x]) v' ∧ Fr p v w w' ∧ Own2 w.heap.size v v' := by
  have HC := Lib.hid (fun v W hr => leftChk_any x l v W hr hs)
  have hr := Rd.of_owns (enc := encL) (fun _ => rfl) h.2
  have c0 := (cells_at h.1).1 0 _ rfl
  simp only [List.getElem_toArray, List.getElem_cons_zero] at c0
  have HR := Lib.hid hr
  have HL := Lib.hid h
  obtain ⟨i0, hi, hz0, hz1, hz2⟩ := info_parts info_left
  rw [hc] at HC
  clear hs hr hc h
  obtain ⟨⟨ow, nu, ti, ⟨ch, tg, tx, us⟩⟩, at_, rn⟩ := x
  simp only [leftV] at HC ⊢
  have c0' : ∀ o, (w.alloc o).cell? ⟨p, 0, none⟩ = some v := fun o => ((Ext.refl w).alloc o).cell_some c0
  go_enter Tryz.func18, Tryz.ntmps18
  go_wp2_with fail
  obtain ⟨W1, hW1⟩ : ∃ W1, w.alloc (.cells #[.string ow, .int .i64 nu, .int .i64 ti, .int .i64 ch, .string tg, .string tx, .int .i64 us, .int .i64 at_, .int .i64 rn] 52) = W1 := ⟨_, rfl⟩
  have hB : Ext w W1 := by rw [← hW1]; exact (Ext.refl w).alloc _
  have hb1 : W1.heap[w.heap.size]? = some (.cells #[.string ow, .int .i64 nu, .int .i64 ti, .int .i64 ch, .string tg, .string tx, .int .i64 us, .int .i64 at_, .int .i64 rn] 52 (0, 0)) := by rw [← hW1]; exact heap_new w _
  have d0 := (cells_at hb1).1 0 _ rfl
  have d1 := (cells_at hb1).1 1 _ rfl
  have d2 := (cells_at hb1).1 2 _ rfl
  have d3 := (cells_at hb1).1 3 _ rfl
  have d4 := (cells_at hb1).1 4 _ rfl
  have d5 := (cells_at hb1).1 5 _ rfl
  have d6 := (cells_at hb1).1 6 _ rfl
  have d7 := (cells_at hb1).1 7 _ rfl
  have d8 := (cells_at hb1).1 8 _ rfl
  simp only [List.getElem_toArray, List.getElem_cons_zero, List.getElem_cons_succ] at d0 d1 d2 d3 d4 d5 d6 d7 d8
  have d9 := hB.cell_some c0
  rw [hW1]
  clear hW1 c0 c0'
  go_still_tail 5, (by kernel_rfl)
  change wpList _ _ _ _ _ W1.drew
  have hB2 : Ext w W1.drew := hB.drew
  have hb2 : W1.drew.heap[w.heap.size]? = some (.cells #[.string ow, .int .i64 nu, .int .i64 ti, .int .i64 ch, .string tg, .string tx, .int .i64 us, .int .i64 at_, .int .i64 rn] 52 (0, 0)) := hb1
  generalize W1.drew = W2 at hB2 hb2 ⊢
  have HB2 := Lib.hid (And.intro hB2 hb2)
  clear hB2 hb2 hb1 hB d0 d1 d2 d3 d4 d5 d6 d7 d8 d9
  go_wp2_with fail
  (with_reducible refine (HC.out _ _ (HR.out.ext HB2.out.1)).mono ?_)
  rintro e w3 ⟨rfl, hx3⟩
  have hL3 := (HL.out.ext HB2.out.1).ext hx3
  have hb3 := (hx3.block (Array.getElem?_eq_some_iff.1 HB2.out.2).1).trans HB2.out.2
  have c3 := (cells_at hL3.1).1 0 _ rfl
  have g0 := (cells_at hb3).1 0 _ rfl
  have g1 := (cells_at hb3).1 1 _ rfl
  have g2 := (cells_at hb3).1 2 _ rfl
  have g3 := (cells_at hb3).1 3 _ rfl
  have g4 := (cells_at hb3).1 4 _ rfl
  have g5 := (cells_at hb3).1 5 _ rfl
  have g6 := (cells_at hb3).1 6 _ rfl
  have g7 := (cells_at hb3).1 7 _ rfl
  have g8 := (cells_at hb3).1 8 _ rfl
  simp only [List.getElem_toArray, List.getElem_cons_zero, List.getElem_cons_succ] at c3 g0 g1 g2 g3 g4 g5 g6 g7 g8
  have HL3 := Lib.hid (And.intro hL3 (HB2.out.1.trans hx3))
  clear hL3 hb3 hx3
  go_wp2_with fail
  have hpw : p < w3.heap.size := (Array.getElem?_eq_some_iff.1 HL3.out.1.1).1
  go_region_law (refine step_append_lies _ (by rfl) _ _ _ (by rfl) p 52 i0 _ 9 96 Tryz.underlying98 hi hz0 hz1 hz2 rfl (by omega) v l.length _ (by rfl) (World.ownsRow.drew (owns_ext HL3.out.1.2 ((Ext.refl w3).alloc _))) ⟨w3.heap.size, 0, none⟩ 1 1 (encL ⟨⟨ow, nu, ti, ⟨ch, tg, tx, us⟩⟩, at_, rn⟩) (by rfl) (by rfl) (news_left w3 _ rfl _ _ rfl) (by simp [encL, Value.oneCell']) (by omega) (by unfold maxLen; omega) (by omega) (by simp; omega) (w3.heap.size + 1) (by simp) ?_; intro g cap w5 hown5 hgrow5 hat5 hlt5; obtain ⟨e5, f5, hL5, hF5, hO5⟩ := LAt.row (l' := l ++ [⟨⟨ow, nu, ti, ⟨ch, tg, tx, us⟩⟩, at_, rn⟩]) ((HL3.out.1.ext ((Ext.refl w3).alloc _)).ext ((Ext.refl _).drew)) hgrow5 (by rw [List.length_append, List.flatMap_append]; exact hown5) (by rcases hat5 with h | h; exact .inl h.symm; exact .inr (by rw [h]; simp [Value.ownBlock])); have HZ5 := Lib.hid (And.intro hL5 (And.intro hF5 hO5)); clear hL5 hF5 hO5 hown5 hgrow5 hat5 hlt5)
  all_goals go_wp2_with fail
  all_goals go_ret2
  all_goals
    obtain ⟨hL5, hF5, hO5⟩ := HZ5.out
    have hx : Ext w3 (w3.alloc (.cells #[.string ow, .int .i64 nu, .int .i64 ti, .int .i64 ch, .string tg, .string tx, .int .i64 us, .int .i64 at_, .int .i64 rn] 52)).drew := ((Ext.refl w3).alloc _).drew
    have hX := HL3.out.2.trans hx
    exact ⟨by simp, _, hL5, (Fr.of_ext hX).trans hF5 (.inl rfl), Own2.trans (.inl rfl) hO5 hX.size⟩
theorem lall_any (p : Nat) (l : List LeftS) (v : Value) (w : World) (h : LAt w p l v) :
    Calls Tryz.prog 33 #[.pointer (some ⟨p, 0, none⟩)] w fun e w' => e = .returned v ∧ w = w' := by
  have c0 := (cells_at h.1).1 0 _ rfl
  simp only [List.getElem_toArray, List.getElem_cons_zero] at c0
  clear h
  go_enter Tryz.func33, Tryz.ntmps33
  go_wp2
  go_ret
  exact ⟨rfl, rfl⟩
theorem llen_any (p : Nat) (l : List LeftS) (v : Value) (w : World) (h : LAt w p l v) :
    Calls Tryz.prog 13 #[.pointer (some ⟨p, 0, none⟩)] w fun e w' => e = .returned (.int .i64 l.length) ∧ w = w' := by
  have HA := Lib.hid (lall_any p l v w h)
  obtain ⟨A, n, c, rfl⟩ := ownsRow_slice h.2
  have hr := Rd.of_owns (enc := encL) (fun _ => rfl) h.2
  obtain ⟨_, A', c', hv, _⟩ := hr
  cases hv
  clear h
  go_enter Tryz.func13, Tryz.ntmps13
  go_wp2_with fail
  (with_reducible refine HA.out.mono ?_)
  rintro e w1 ⟨rfl, rfl⟩
  go_wp2_with fail
  go_ret
  exact ⟨rfl, rfl⟩
end Go.Proofs.YtehmgeodpjmfaaaGreatDoor
