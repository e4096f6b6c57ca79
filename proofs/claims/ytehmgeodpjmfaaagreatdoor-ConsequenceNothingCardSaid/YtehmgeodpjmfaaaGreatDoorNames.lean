/- state: the names of a kind. -/
import Derived.Shelf.RegionOpen
import Derived.Deep.AppendLies
import Derived.Test.YtehmgeodpjmfaaaGreatDoorWalk
namespace Go.Proofs.YtehmgeodpjmfaaaGreatDoor
open Go.RowKit
attribute [local go_sem] Oper.semAt_some
/-- append, kept shut in this text's walks: what it does is told by 'run_append_lies'. -/
def appendKept (ts : Array TypeId) (t : TypeId) (args : Array Value) : Sem Value := Builtin.append_ ts t args
theorem append_kept (ts : Array TypeId) (t : TypeId) (args : Array Value) : Builtin.append_ ts t args = appendKept ts t args := rfl
attribute [local go_sem ↓] append_kept

theorem sttree2_any (sb : Nat) (pt : Option Addr) (w : World) (c0 : w.cell? ⟨sb, 0, none⟩ = some (.pointer pt)) :
    Calls Tryz.prog 64 #[.pointer (some ⟨sb, 0, none⟩)] w fun e w' => e = .returned (.pointer pt) ∧ w = w' := by
  go_enter Tryz.func64, Tryz.ntmps64
  go_wp2
  go_ret
  exact ⟨rfl, rfl⟩
theorem info_name : (Tryz.prog.info? 78).map (fun i => (i.zero, i.size, i.bytes)) = some (some (.agg #[.int .i64 0, .string ⟨#[]⟩, .int .i64 0, .int .i64 0, .string ⟨#[]⟩]), 5, 56) := by kernel_rfl

/-- A node of the tree, with its word that it lies there. -/
abbrev AN (wb : World) : Type := { x : Nat × NameS × ByteArray // NodeAt wb x }
def encN {wb : World} (x : AN wb) : Array Value := encA x.1
theorem all1_in (n l Bt : Nat) (p0 : Option Addr) (T : AT) (wb : World) (J Jx : List (AN wb) → World → Prop)
    (hY : ∀ pre x W, J pre W → pre.length < T.toA.length → YieldAt Fence.wide (n - 1) Tryz.prog l (encN x) W fun e W' =>
      (e = .returned (.bool true) ∧ J (pre ++ [x]) W' ∧ Below wb.heap.size W W') ∨ (e = .returned (.bool false) ∧ Jx (pre ++ [x]) W'))
    (W : World) (hx : Ext wb W) (hBt : W.cell? ⟨Bt, 0, none⟩ = some (.pointer p0)) (hT : IsA wb p0 T) (h0 : J [] W) :
    CallsIn Fence.wide n Tryz.prog 114 #[.func (.yield l) #[] #[], .pointer (some ⟨Bt, 0, none⟩)] W fun e W' => (∃ v, e = .returned v) ∧
      ((∃ ys : List (AN wb), ys.map (·.1) = T.toA ∧ J ys W') ∨ (∃ pre : List (AN wb), pre.map (·.1) <+: T.toA ∧ Jx pre W')) := by
  have hdd : ∀ k : Nat, (Fence.wide.depth.isSome = true → 1 ≤ k) := fun k h => by cases h
  have h6 : Fence.wide.fn 115 := trivial
  have hp := walkFrom l T.toA.length wb (fun p W => ∃ ys : List (AN wb), ys.map (·.1) = p ∧ J ys W) (fun p W => ∃ ys : List (AN wb), ys.map (·.1) = p ∧ Jx ys W)
    (fun m pre x W hn hj hl => by
      obtain ⟨ys, rfl, hj⟩ := hj
      refine yieldW m (YieldAt.mono (hY ys ⟨x, hn⟩ W hj (by simpa using hl)) fun e W' h => ?_)
      rcases h with ⟨he, h1, h2⟩ | ⟨he, h1⟩
      · exact .inl ⟨he, ⟨_, by rw [List.map_append]; rfl, h1⟩, h2⟩
      · exact .inr ⟨he, ⟨_, by rw [List.map_append]; rfl, h1⟩⟩) T (n - 1) p0 [] W hT hx ⟨[], rfl, h0⟩ (by simp)
  clear hY
  refine callsIn_of_wp Tryz.func114 rfl trivial ?_ rfl
  simp only [Tryz.ntmps114, List.size_toArray, List.length_cons, List.length_nil, Nat.reduceAdd, Nat.reduceSub, Array.replicate_succ, Array.replicate_zero, List.push_toArray, List.append_toArray, List.nil_append, List.cons_append]
  gi_wp2_with ((try refine ⟨hdd _, ?_⟩); gi_at_call 115; refine hp.mono ?_; clear hp; rintro e W1 (⟨rfl, hJ1, _⟩ | ⟨rfl, q, hq, hx⟩))
  · go_end0
    obtain ⟨ys, h1, h2⟩ := hJ1
    exact ⟨⟨_, rfl⟩, .inl ⟨ys, by simpa using h1, h2⟩⟩
  · go_end0
    obtain ⟨ys, h1, h2⟩ := hx
    exact ⟨⟨_, rfl⟩, .inr ⟨ys, by rw [h1]; simpa using hq, h2⟩⟩
theorem allc_in (n : Nat) (p0 : Option Addr) (w : World) :
    CallsIn Fence.wide n Tryz.prog 89 #[.pointer p0] w fun e w' => e = .returned (.func (.func 114) #[] #[.pointer (some ⟨w.heap.size, 0, none⟩)]) ∧ w' = w.alloc (.cells #[.pointer p0] 109) := by
  refine callsIn_of_wp Tryz.func89 rfl trivial ?_ rfl
  simp only [Tryz.ntmps89, List.size_toArray, List.length_cons, List.length_nil, Nat.reduceAdd, Nat.reduceSub, Array.replicate_succ, Array.replicate_zero, List.push_toArray, List.append_toArray, List.nil_append, List.cons_append]
  gi_wp2
  go_ret
  exact ⟨rfl, rfl⟩
theorem all_stops (n Bt : Nat) (p0 : Option Addr) (T : AT) (wb w : World) (hBt : Bt < w.heap.size) (hx : Ext wb w)
    (hc : w.cell? ⟨Bt, 0, none⟩ = some (.pointer p0)) (hT : IsA wb p0 T) :
    SeqStopsK Fence.wide n Tryz.prog 114 #[.pointer (some ⟨Bt, 0, none⟩)] (encN (wb := wb)) (Below wb.heap.size) (fun ys => ys.map (·.1) = T.toA) (fun pre => pre.map (·.1) <+: T.toA) T.toA.length w := fun l J Jx W hW _ _ hY h0 =>
  all1_in n l Bt p0 T wb J Jx hY W (Ext.trans hx hW) ((hW.cell (p := ⟨Bt, 0, none⟩) hBt).trans hc) hT h0
theorem kind1_any (n : NameS) (k : Int) (kb : Nat) (w : World) (hk : w.cell? ⟨kb, 0, none⟩ = some (.int .i64 k)) :
    Calls Tryz.prog 63 #[nmV n, .pointer (some ⟨kb, 0, none⟩)] w fun e w' => e = .returned (.bool (n.kind == k)) ∧ w' = w.alloc (.cells #[.int .i64 n.kind, .string n.owner, .int .i64 n.number, .int .i64 n.index, .string n.text] 78) := by
  have hk2 : ∀ o, (w.alloc o).cell? ⟨kb, 0, none⟩ = some (.int .i64 k) := fun o => ((Ext.refl w).alloc o).cell_some hk
  simp only [nmV]
  go_enter Tryz.func63, Tryz.ntmps63
  go_wp2
  go_ret
  exact ⟨rfl, rfl⟩

def selK {wb : World} (k : Int) (pre : List (AN wb)) : List NameS := (pre.map (·.1.2.1)).filter (·.kind == k)
theorem selK_snoc {wb : World} (k : Int) (pre : List (AN wb)) (x : AN wb) : selK k (pre ++ [x]) = if x.1.2.1.kind == k then selK k pre ++ [x.1.2.1] else selK k pre := by
  unfold selK; simp [List.filter_cons]; split <;> simp
theorem selK_le {wb : World} (k : Int) (pre : List (AN wb)) : (selK k pre).length ≤ pre.length := by
  unfold selK; refine Nat.le_trans (List.length_filter_le _ _) (by simp)
/-- What the call's own blocks hold between two rounds. -/
def NI {wb : World} (B : Nat) (k : Int) (W0 : World) (pre : List (AN wb)) (W : World) : Prop :=
  (∃ v, Boxed W (B + 1) 100 v ∧ W.ownsRow (B + 1) 78 5 v (selK k pre).length ((selK k pre).flatMap encNm) ∧ True) ∧ Below (B + 1) W0 W
theorem NI_own {wb : World} (B B₀ : Nat) (k : Int) (W0 : World) (h : B + 1 ≤ W0.heap.size) (h' : B + 1 ≤ B₀) : OwnFrom B₀ (NI (wb := wb) B k W0) :=
  OwnFrom.and (Own.from (holdsRow_own (B + 1) (B + 1) _ _ 5 (fun pre => (selK k pre).length) (fun pre => (selK k pre).flatMap encNm) (fun _ _ => True)) _) (ownFrom_below h h')

set_option maxHeartbeats 8000000 in
set_option maxRecDepth 100000 in
theorem names_in (k : Int) (kb : Nat) (t : BT) (ps : Option Addr) (w : World) (h : IsS w ps t) (hkb : w.cell? ⟨kb, 0, none⟩ = some (.int .i64 k)) (hsz : t.sz ≤ 1000000000) :
    CallsIn Fence.wide 5 Tryz.prog 62 #[.pointer ps, .func (.func 63) #[] #[.pointer (some ⟨kb, 0, none⟩)]] w fun e w' =>
      ∃ v, e = .returned v ∧ Rd w' 5 encNm v ((t.toL.map (·.1)).filter (·.kind == k)) ∧ Ext w w' := by
  obtain ⟨i0, hi, hz0, hz1, hz2⟩ := info_parts info_name
  have hdd : ∀ k : Nat, (Fence.wide.depth.isSome = true → 1 ≤ k) := fun k h => by cases h
  have f1 : Fence.wide.fn 64 := trivial
  have f2 : Fence.wide.fn 89 := trivial
  obtain ⟨sb, q, rfl, hsb, hq0⟩ := h
  have s0 := (cells_at hsb).1 0 _ rfl
  obtain ⟨T, hT, hA⟩ := IsA.of_isT hq0
  clear hsb hq0
  have hX1 : Ext w (((w.alloc (.cells #[.func (.func 63) #[] #[.pointer (some ⟨kb, 0, none⟩)]] 147)).alloc (.cells #[.slice none 0 0] 100))) := ((Ext.refl w).alloc _).alloc _
  refine callsIn_of_wp_marks Tryz.func62 rfl trivial ?_ rfl
  simp only [Tryz.ntmps62, List.size_toArray, List.length_cons, List.length_nil, Nat.reduceAdd, Nat.reduceSub, Array.replicate_succ, Array.replicate_zero, List.push_toArray, List.append_toArray, List.nil_append, List.cons_append]
  gi_wp2_with (first
    | ((try refine ⟨hdd _, ?_⟩); gi_at_call 64; refine (callsIn_wide.2 (sttree2_any sb q _ (hX1.cell_some s0))).mono ?_; rintro e w' ⟨rfl, rfl⟩)
    | ((try refine ⟨hdd _, ?_⟩); gi_at_call 89; refine (allc_in _ _ _).mono ?_; rintro e w' ⟨rfl, rfl⟩))
  obtain ⟨W0, hW0⟩ : ∃ W0, (((w.alloc (.cells #[.func (.func 63) #[] #[.pointer (some ⟨kb, 0, none⟩)]] 147)).alloc (.cells #[.slice none 0 0] 100)).alloc (.cells #[.pointer q] 109)) = W0 := ⟨_, rfl⟩
  have hsz0 : W0.heap.size = w.heap.size + 3 := by rw [← hW0]; simp
  have hX0 : Ext w W0 := by rw [← hW0]; exact (((Ext.refl w).alloc _).alloc _).alloc _
  have b0 : W0.heap[w.heap.size]? = some (Obj.cells #[.func (.func 63) #[] #[.pointer (some ⟨kb, 0, none⟩)]] 147 (0, 0)) := by
    rw [← hW0]; exact (Below.heap_alloc _ _ _ (by simp; omega)).trans ((Below.heap_alloc _ _ _ (by simp)).trans (heap_new w _))
  have b1 : W0.heap[w.heap.size + 1]? = some (Obj.cells #[.slice none 0 0] 100 (0, 0)) := by
    rw [← hW0]; exact (Below.heap_alloc _ _ _ (by simp)).trans (by have := heap_new (w.alloc (.cells #[.func (.func 63) #[] #[.pointer (some ⟨kb, 0, none⟩)]] 147)) (.cells #[.slice none 0 0] 100); simpa using this)
  have b2 : W0.heap[w.heap.size + 2]? = some (Obj.cells #[.pointer q] 109 (0, 0)) := by
    rw [← hW0]; have := heap_new ((w.alloc (.cells #[.func (.func 63) #[] #[.pointer (some ⟨kb, 0, none⟩)]] 147)).alloc (.cells #[.slice none 0 0] 100)) (.cells #[.pointer q] 109); simpa using this
  rw [hW0]
  clear hX1 hW0
  have hkb0 := hX0.cell_some hkb
  refine wpIn_rangeFunc_ownH (n := 5) rfl (by omega) (gf := 114) (lb := #[.pointer (some ⟨w.heap.size + 2, 0, none⟩)]) (by simp [Act.eval]) trivial (enters_of Tryz.func114 (by kernel_rfl) rfl)
    (all_stops 4 (w.heap.size + 2) q T w W0 (by omega) hX0 (cells_at b2 |>.1 0 _ rfl) hA) belowK_t (belowK_b (by omega)) (Below.refl _ _) (fun _ => rfl)
    (NI w.heap.size k W0) (fun _ _ _ => False) (NI_own _ _ _ _ (by omega) (by omega)) (fun c pre W W' row hs _ _ => hs)
    ⟨⟨_, b1, World.ownsRow_nil _ _ _ _, trivial⟩, Below.refl _ _⟩
    (fun x a' W => a' = { tmps := #[.pointer (some ⟨sb, 0, none⟩), .func (.func 63) #[] #[.pointer (some ⟨kb, 0, none⟩)], undef, .pointer (some ⟨w.heap.size, 0, none⟩), .slice none 0 0, .pointer (some ⟨w.heap.size + 1, 0, none⟩), .pointer (some ⟨x.1.1, 0, none⟩), .pointer (some ⟨sb, 0, none⟩), .pointer q, .func (.func 114) #[] #[.pointer (some ⟨w.heap.size + 2, 0, none⟩)], .pointer (some ⟨x.1.1, 0, none⟩), undef, undef, undef, undef, undef, undef, undef, undef, undef, undef, undef, undef, undef, undef], defers := [] })
    (fun x a' _ X Y row hs hg hr => hs)
    ?assign ?body ?done ?stop
  case assign =>
    rintro l pre x W K hI hK
    simp only [encN, encA]
    gi_wp2
    exact hK _ _ ((KeepsOthers.refl _).from _) (Below.refl _ _) hI rfl
  case body =>
    rintro l pre x a' W hl ⟨r, hr⟩ hI rfl hlt
    obtain ⟨⟨v, hv, hrow, _⟩, hB⟩ := hI
    obtain ⟨⟨b, n, u⟩, hnode⟩ := x
    have hXW : Ext w W := (Ext.below hX0).trans (hB.mono (by omega))
    obtain ⟨pl, pr, hh, ss, yy, hb⟩ := hnode.ext hXW
    obtain ⟨c0, c1, c2, c3, c4, _⟩ := node_cells hb
    have cf := (cells_at ((hB.block w.heap.size (by omega)).trans b0)).1 0 _ rfl
    have hkW := hXW.cell_some hkb
    have hkD : W.drew.cell? ⟨kb, 0, none⟩ = some (.int .i64 k) := by simpa using hkW
    have hmo : Tryz.prog.follows .mixedOrders = true := by kernel_rfl
    have fk : Fence.wide.fn 63 := trivial
    have HV := Lib.hid (And.intro hv hrow)
    have hle : (selK k pre).length + 1 ≤ 1000000000 := by
      have h1 := selK_le k pre
      have h2 : T.toA.length = t.sz := by rw [BT.sz_eq, ← hT, ← AT.toA_toL, List.length_map]
      omega
    simp only at c0 c1 c2 c3 c4
    clear hv hrow hb
    rcases Bool.eq_false_or_eq_true (n.kind == k) with hkk | hkk
    · gi_wp2_with fail
      gi_region_with_o ((try refine ⟨hdd _, ?_⟩); gi_at_call 63; refine (CallsIn.inRound l (callsIn_wide.2 (kind1_any n k kb _ hkD))).mono ?_; rintro e w2 ⟨rfl, rfl⟩)
      all_goals
        obtain ⟨W2, hW2⟩ : ∃ W2, (W.alloc (.cells #[.int .i64 n.kind, .string n.owner, .int .i64 n.number, .int .i64 n.index, .string n.text] 78)).drew = W2 := ⟨_, rfl⟩
        have hx2 : Ext W W2 := by rw [← hW2]; exact ((Ext.refl W).alloc _).drew
        rw [hW2]
        have hk2 : KeepsOthers W W2 := by rw [← hW2]; exact (KeepsOthers.alloc _ _).trans (KeepsOthers.drew _)
        have d0 := hx2.cell_some c0
        have d1 := hx2.cell_some c1
        have d2 := hx2.cell_some c2
        have d3 := hx2.cell_some c3
        have d4 := hx2.cell_some c4
        have hv2 : Boxed W2 (w.heap.size + 1) 100 v := (hx2.block HV.out.1.lt).trans HV.out.1
        have hrow2 := HV.out.2.kept (grownBy_of_ext hx2) (by rcases v.ownBlock with _ | g; exact .inl rfl; exact .inr (by simp))
        have hB2 : Below (w.heap.size + 1) W W2 := hx2.mono (by have := hB.size; omega)
        clear hW2 c0 c1 c2 c3 c4 cf hkW hkD
        have cv := hv2.cell
        have cvA : ∀ o, (W2.alloc o).cell? ⟨w.heap.size + 1, 0, none⟩ = some v := fun o => ((Ext.refl W2).alloc o).cell_some cv
        have HV2 := Lib.hid (And.intro hv2 hrow2)
        clear hv2 hrow2
        gi_wp2_with fail
        obtain ⟨g, cap, w3, hrun, hown3, hgrow, hat, hlt3⟩ := run_append_lies (P := Tryz.prog) ((W2.alloc (.cells #[.int .i64 n.kind, .string n.owner, .int .i64 n.number, .int .i64 n.index, .string n.text] 78)).drew) 100 100 (w.heap.size + 1) 78 i0 (.agg #[.int .i64 0, .string ⟨#[]⟩, .int .i64 0, .int .i64 0, .string ⟨#[]⟩]) 5 56 Tryz.underlying100 hi hz0 hz1 hz2 (by decide) (by decide) v (selK k pre).length _ (HV2.out.2.kept (grownBy_of_ext (((Ext.refl W2).alloc _).drew)) (by rcases v.ownBlock with _ | g; exact .inl rfl; exact .inr (by simp))) ⟨W2.heap.size, 0, none⟩ 1 1 (encNm n) (by rfl) (World.news_of_block (heap_new W2 _)) (by simp [encNm, Value.oneCell']) (by decide) (by unfold maxLen; omega) (by omega) (by have := hx2.size; have := hB.size; simp; omega) (W2.heap.size + 1) (by simp)
        rw [append_kept] at hrun
        obtain ⟨hv3, hv4, hr4, hk4, hb4⟩ := HV2.out.1.appended (by decide) HV2.out.2 (by have := hx2.size; have := hB.size; omega) (Nat.le_refl _) hown3 ⟨hgrow.os, hgrow.tape, hgrow.output, hgrow.size, hgrow.block⟩
        have hc1 := hv3.cell
        have hf1 := hv3.frozen
        have HZ := Lib.hid (And.intro hv4 (And.intro hr4 (And.intro hk4 hb4)))
        clear hv3 hv4 hr4 hk4 hb4 hown3 hgrow hat hlt3
        gi_region_with_o (fail)
        all_goals gi_wp2
        all_goals
          obtain ⟨hv4, hr4, hk4, hb4⟩ := HZ.out
          refine ⟨(hk2.trans hk4).from _, (hB2.trans hb4).mono (by omega), ⟨_, hv4, ?_, trivial⟩, hB.trans (hB2.trans hb4)⟩
          rw [selK_snoc, if_pos hkk]
          simpa using hr4
    · gi_wp2_with fail
      gi_region_with_o ((try refine ⟨hdd _, ?_⟩); gi_at_call 63; refine (CallsIn.inRound l (callsIn_wide.2 (kind1_any n k kb _ hkD))).mono ?_; rintro e w2 ⟨rfl, rfl⟩)
      all_goals
        obtain ⟨W2, hW2⟩ : ∃ W2, (W.alloc (.cells #[.int .i64 n.kind, .string n.owner, .int .i64 n.number, .int .i64 n.index, .string n.text] 78)).drew = W2 := ⟨_, rfl⟩
        have hx2 : Ext W W2 := by rw [← hW2]; exact ((Ext.refl W).alloc _).drew
        have hk2 : KeepsOthers W W2 := by rw [← hW2]; exact (KeepsOthers.alloc _ _).trans (KeepsOthers.drew _)
        rw [hW2]
        have hB2 : Below (w.heap.size + 1) W W2 := hx2.mono (by have := hB.size; omega)
        clear hW2
        gi_wp2
        refine ⟨hk2.from _, hB2.mono (by omega), ⟨v, (hx2.block HV.out.1.lt).trans HV.out.1, ?_, trivial⟩, hB.trans hB2⟩
        rw [selK_snoc, if_neg (by rw [hkk]; simp)]
        exact HV.out.2.kept (grownBy_of_ext hx2) (by rcases v.ownBlock with _ | g; exact .inl rfl; exact .inr (by simp))
  case done =>
    rintro D ys W hD hys hI hK
    obtain ⟨⟨v, hv, hrow, _⟩, hB⟩ := hI
    have cv := hv.cell
    have HW := Lib.hid (And.intro hrow hB)
    clear hrow hB
    gi_wp2
    obtain ⟨hrow, hB⟩ := HW.out
    refine ⟨by simp, .inl ⟨_, _, rfl, run_takeDeferred hK, ?_⟩⟩
    refine ⟨_, results_tmp rfl _ _ _, v, rfl, ?_, ?_⟩
    · have hl : selK k ys = (t.toL.map (·.1)).filter (·.kind == k) := by
        rw [← hT, ← AT.toA_toL, ← hys]; unfold selK; simp [List.map_map, Function.comp_def]
      rw [← hl]
      refine Rd.of_owns (e := 78) (base := w.heap.size + 1) (sz := 5) (enc := encNm) (fun _ => rfl) ?_
      refine hrow.kept (grownBy_putObj' W D (.deferred none)) ?_
      rcases hrow.2 with ⟨rfl, _⟩ | ⟨g, cap, cur, rfl, _, hg, _⟩
      · exact .inl rfl
      · right
        simp only [Value.ownBlock, ne_eq, Option.some.injEq]
        rintro rfl
        rw [hK] at hg; cases hg
    · have hBD : Below w.heap.size w W := (Ext.below hX0).trans (hB.mono (by omega))
      exact hBD.trans ((Below.refl _ W).grown (grownBy_putObj' W D (.deferred none)) hBD.size (fun k e => by cases e; omega))
  case stop =>
    rintro D c pre W _ _ h _
    exact h.elim
set_option maxHeartbeats 4000000 in
theorem kind_any (k : Int) (t : BT) (ps : Option Addr) (w : World) (h : IsS w ps t) (hsz : t.sz ≤ 1000000000) :
    Calls Tryz.prog 34 #[.pointer ps, .int .i64 k] w fun e w' => ∃ v, e = .returned v ∧ Rd w' 5 encNm v ((t.toL.map (·.1)).filter (·.kind == k)) ∧ Ext w w' := by
  have HN := Lib.hid (fun kb W hk hS => callsIn_wide.1 (names_in k kb t ps W hS hk hsz))
  have H := Lib.hid h
  clear h
  go_enter Tryz.func34, Tryz.ntmps34
  go_wp2_with (go_at_call 62; refine (HN.out w.heap.size _ (by simp) (IsS.ext ((Ext.refl w).alloc _) H.out)).mono ?_; rintro e w' ⟨v, rfl, hv, hx⟩; have HV := Lib.hid hv; clear hv)
  go_ret
  exact ⟨_, rfl, HV.out, ((Ext.refl w).alloc _).trans hx⟩
end Go.Proofs.YtehmgeodpjmfaaaGreatDoor
