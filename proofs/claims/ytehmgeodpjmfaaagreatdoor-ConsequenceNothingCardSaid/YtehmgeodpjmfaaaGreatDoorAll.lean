/- output: All. -/
import Derived.Test.YtehmgeodpjmfaaaGreatDoorDecPure
import Derived.Test.YtehmgeodpjmfaaaGreatDoorNames
namespace Go.Proofs.YtehmgeodpjmfaaaGreatDoor
open Go.RowKit

structure EntS where
  own : ByteArray
  num : Int
  tick : Int
  out : OutS
  deriving DecidableEq
def encE (e : EntS) : List Value := [.string e.own, .int .i64 e.num, .int .i64 e.tick, .int .i64 e.out.chan, .string e.out.target, .string e.out.text, .int .i64 e.out.user]
def BT.val (t : BT) (n : NameS) : ByteArray := (t.get n).getD ⟨#[]⟩
def entOf (t : BT) (n : NameS) : Option EntS := if (decL (t.val n).data.toList).2 = 0 then some ⟨n.owner, n.number, n.index, (decL (t.val n).data.toList).1⟩ else none
def allL (t : BT) : List EntS := ((t.toL.map (·.1)).filter (·.kind == 18)).filterMap (entOf t)
def ValOk (t : BT) : Prop := ∀ x ∈ t.toL, x.2.size ≤ 65536
theorem get_mem : ∀ (t : BT) (n : NameS) (v : ByteArray), t.get n = some v → ∃ m, (m, v) ∈ t.toL
  | .nil, _, _, h => by simp [BT.get] at h
  | .node l m u r, n, v, h => by
    rw [BT.get] at h
    split at h
    · obtain ⟨k, hk⟩ := get_mem l n v h; exact ⟨k, by simp [BT.toL, hk]⟩
    · split at h
      · obtain ⟨k, hk⟩ := get_mem r n v h; exact ⟨k, by simp [BT.toL, hk]⟩
      · cases h; exact ⟨m, by simp [BT.toL]⟩
theorem val_size {t : BT} (h : ValOk t) (n : NameS) : (t.val n).size ≤ 65536 := by
  unfold BT.val
  cases hg : t.get n with
  | none => simp [ByteArray.size]
  | some v => obtain ⟨m, hm⟩ := get_mem t n v hg; exact h _ hm
theorem info_entry : (Tryz.prog.info? 41).map (fun i => (i.zero, i.size, i.bytes)) = some (some (.agg #[.string ⟨#[]⟩, .int .i64 0, .int .i64 0, .int .i64 0, .string ⟨#[]⟩, .string ⟨#[]⟩, .int .i64 0]), 7, 80) := by kernel_rfl
theorem take_filterMap {α β : Type} (F : α → Option β) (l : List α) (j : Nat) (h : j < l.length) : (l.take (j + 1)).filterMap F = (l.take j).filterMap F ++ (F l[j]).toList := by
  rw [List.take_add_one, List.getElem?_eq_getElem h, Option.toList_some, List.filterMap_append, List.filterMap_cons, List.filterMap_nil]
  cases F l[j] <;> rfl
/-- A name that lies in a slice, field by field. -/
theorem Rd.name {w : World} {v : Value} {l : List NameS} (h : Rd w 5 encNm v l) : l.length ≤ 9223372036854775807 ∧ ∃ A c, v = .slice A l.length c ∧
    (0 < l.length → ∃ b off, A = some ⟨b, off, none⟩ ∧ b < w.heap.size ∧ ∀ j (hj : j < l.length), w.cell? ⟨b, off + j * 5, none⟩ = some (.int .i64 l[j].kind) ∧ w.cell? ⟨b, off + j * 5 + 1, none⟩ = some (.string l[j].owner) ∧ w.cell? ⟨b, off + j * 5 + 2, none⟩ = some (.int .i64 l[j].number) ∧ w.cell? ⟨b, off + j * 5 + 3, none⟩ = some (.int .i64 l[j].index) ∧ w.cell? ⟨b, off + j * 5 + 4, none⟩ = some (.string l[j].text)) := by
  obtain ⟨hm, A, c, hv, hr⟩ := h
  refine ⟨hm, A, c, hv, fun h0 => ?_⟩
  obtain ⟨b, off, hA, hb, hc⟩ := hr h0
  exact ⟨b, off, hA, hb, fun j hj => ⟨hc j hj 0 _ rfl, hc j hj 1 _ rfl, hc j hj 2 _ rfl, hc j hj 3 _ rfl, hc j hj 4 _ rfl⟩⟩

theorem news_ent (w : World) (b : Nat) (hb : b = w.heap.size) (no : ByteArray) (nn ni ch us : Int) (tg tx : ByteArray) : ∀ j u, (encE ⟨no, nn, ni, ⟨ch, tg, tx, us⟩⟩)[j]? = some u →
    (w.alloc (.cells #[.string no, .int .i64 nn, .int .i64 ni, .int .i64 ch, .string tg, .string tx, .int .i64 us] 41)).cell? ((⟨b, 0, none⟩ : Addr).add j) = some u := by
  subst hb
  exact World.news_of_block (cs := #[.string no, .int .i64 nn, .int .i64 ni, .int .i64 ch, .string tg, .string tx, .int .i64 us]) (heap_new w _)
theorem owns_ext {w w' : World} {base sz n : Nat} {e : TypeId} {v : Value} {xs : List Value} (h : w.ownsRow base e sz v n xs) (hx : Ext w w') : w'.ownsRow base e sz v n xs :=
  h.kept (grownBy_of_ext hx) (by rcases v.ownBlock with _ | g; exact .inl rfl; exact .inr (by simp))
theorem ext_owns {w0 w w1 : World} {base sz n : Nat} {e : TypeId} {v : Value} {xs : List Value} (h : w.ownsRow base e sz v n xs) (hx : Ext w0 w) (hb : w0.heap.size ≤ base) (hg : w.grownBy w1 v.ownBlock) : Ext w0 w1 :=
  Below.grown hx hg hx.size (fun k e => Nat.le_trans hb (h.lt k e).1)

set_option maxHeartbeats 8000000 in
set_option maxRecDepth 100000 in
theorem all_any (t : BT) (ps : Option Addr) (w : World) (h : IsS w ps t) (hok : AllOk t) (hvk : ValOk t) (hsz : t.sz ≤ 1000000) :
    Calls Tryz.prog 14 #[.pointer ps] w fun e w' => ∃ v, e = .returned v ∧ Rd w' 7 encE v (allL t) ∧ Ext w w' := by
  obtain ⟨i0, hi, hz0, hz1, hz2⟩ := info_parts info_entry
  have HK := Lib.hid (fun W hW => kind_any 18 t ps W hW (by omega))
  have HS := Lib.hid h
  have HE : Hid (allL t = ((t.toL.map (·.1)).filter (·.kind == 18)).filterMap (entOf t)) := Lib.hid rfl
  have hlen : ((t.toL.map (·.1)).filter (·.kind == 18)).length ≤ 1000000 := by
    refine Nat.le_trans (List.length_filter_le _ _) ?_
    rw [List.length_map, ← BT.sz_eq]; exact hsz
  have HN : Hid (∀ n ∈ (t.toL.map (·.1)).filter (·.kind == 18), NmOk n) := Lib.hid (fun n hn => by
    obtain ⟨x, hx, rfl⟩ := List.mem_map.1 (List.mem_filter.1 hn).1
    exact hok x hx)
  have HG := Lib.hid (fun n hn W hW => get_any n hn t hok ps W hW)
  have HD := Lib.hid (fun n W => decode_any (t.val n) W (by have := val_size hvk n; omega))
  have HV : Hid (∀ n, (t.get n).getD ⟨#[]⟩ = t.val n) := Lib.hid (fun _ => rfl)
  generalize allL t = AL at HE ⊢
  generalize (t.toL.map (·.1)).filter (·.kind == 18) = names at HK HE hlen HN
  clear hok hvk h
  go_enter Tryz.func14, Tryz.ntmps14
  go_wp2_with fail
  (with_reducible refine (HK.out _ HS.out).mono ?_)
  rintro e w1 ⟨nv, rfl, hr1, hx1⟩
  obtain ⟨hm, A, c, rfl, hcs⟩ := hr1.name
  have HC := Lib.hid hcs
  have HX := Lib.hid hx1
  clear hr1 hcs hx1
  go_wp2_with fail
  go_loopg [3, 13] names.length (fun g a d wx => ∃ (j : Nat) (v : Value), d = .int .i64 j ∧ a = v ∧ j + g = names.length ∧ Aside (wx.ownsRow w1.heap.size 41 7 v ((names.take j).filterMap (entOf t)).length (((names.take j).filterMap (entOf t)).flatMap encE) ∧ Ext w1 wx))
  case atStart => exact ⟨0, _, rfl, rfl, by omega, by (show World.ownsRow _ _ _ _ _ _ _ ∧ _); exact ⟨World.ownsRow_nil _ _ _ _, Ext.refl _⟩⟩
  case round =>
    obtain ⟨j, v, rfl, hv, hg, hA⟩ := hrel
    have hv' := hv.symm
    subst hv'
    clear hv
    by_cases hlt : j < names.length
    · obtain ⟨b, off, rfl, hb, hcell⟩ := HC.out (by omega)
      obtain ⟨c0, c1, c2, c3, c4⟩ := hcell j hlt
      have d0 := hA.out.2.cell_some c0
      have d1 := hA.out.2.cell_some c1
      have d2 := hA.out.2.cell_some c2
      have d3 := hA.out.2.cell_some c3
      have d4 := hA.out.2.cell_some c4
      clear hcell c0 c1 c2 c3 c4
      have hG := fun W hW => HG.out names[j] (HN.out _ (List.getElem_mem hlt)) W hW
      rw [HV.out] at hG
      have HG' := Lib.hid hG
      have HD' := Lib.hid (HD.out names[j])
      have HF : Hid (entOf t names[j] = if (decL (t.val names[j]).data.toList).2 = 0 then some ⟨names[j].owner, names[j].number, names[j].index, (decL (t.val names[j]).data.toList).1⟩ else none) := Lib.hid rfl
      have HT := Lib.hid (take_filterMap (entOf t) names j hlt)
      have HS' := Lib.hid (IsS.ext (HX.out.trans hA.out.2) HS.out)
      clear hG
      generalize t.val names[j] = x at HG' HD' HF
      generalize decL x.data.toList = D at HD' HF
      generalize (t.get names[j]).isSome = is at HG'
      generalize names[j] = n at HG' HF HT d0 d1 d2 d3 d4
      obtain ⟨nk, no, nn, ni, nt⟩ := n
      obtain ⟨⟨ch, tg, tx, us⟩, er⟩ := D
      simp only [nmV, outV] at HG' HD' HF d0 d1 d2 d3 d4
      have hle : ((names.take j).filterMap (entOf t)).length ≤ 1000000 := by
        refine Nat.le_trans (List.length_filterMap_le _ _) ?_
        rw [List.length_take]; omega
      go_wp2_with fail
      (with_reducible refine (HG'.out _ (IsS.ext ((Ext.refl wr).alloc _) HS'.out)).mono ?_)
      rintro e w2 ⟨rfl, hx2⟩
      have hb2 := (hx2.block (b := wr.heap.size) (by simp)).trans (heap_new wr _)
      have e1 := (cells_at hb2).1 1 _ rfl
      have e2 := (cells_at hb2).1 2 _ rfl
      have e3 := (cells_at hb2).1 3 _ rfl
      simp only [List.getElem_toArray, List.getElem_cons_zero, List.getElem_cons_succ] at e1 e2 e3
      have Z2 := Lib.hid (((Ext.refl wr).alloc _).trans hx2)
      clear hx2 hb2
      go_wp2_with fail
      (with_reducible refine (HD'.out _).mono ?_)
      rintro e w3 ⟨rfl, hx3⟩
      have g1 := hx3.cell_some e1
      have g2 := hx3.cell_some e2
      have g3 := hx3.cell_some e3
      have g1' : ∀ o, (w3.alloc o).cell? ⟨wr.heap.size, 1, none⟩ = some (.string no) := fun o => ((Ext.refl w3).alloc o).cell_some g1
      have g2' : ∀ o, (w3.alloc o).cell? ⟨wr.heap.size, 2, none⟩ = some (.int .i64 nn) := fun o => ((Ext.refl w3).alloc o).cell_some g2
      have g3' : ∀ o, (w3.alloc o).cell? ⟨wr.heap.size, 3, none⟩ = some (.int .i64 ni) := fun o => ((Ext.refl w3).alloc o).cell_some g3
      have Z3 := Lib.hid ((Z2.out.trans hx3).alloc (.cells #[.int .i64 ch, .string tg, .string tx, .int .i64 us] 35))
      clear hx3 e1 e2 e3 g1 g2 g3 d0 d1 d2 d3 d4
      have hws := HX.out.size
      have hws2 := hA.out.2.size
      have hws3 := Z3.out.size
      by_cases he : er = 0
      · subst he
        have H := HF.out
        rw [if_pos rfl] at H
        have HF := Lib.hid H
        clear H
        go_wp2_with (at_builtin; (refine wpList_append_own_at _ rfl _ _ 38 rfl w1.heap.size 41 i0 _ 7 80 Tryz.underlying38 hi hz0 hz1 hz2 rfl (by decide) v _ _ rfl (owns_ext hA.out.1 (Z3.out.alloc _)) ⟨w3.heap.size + 1, 0, none⟩ 1 1 (encE ⟨no, nn, ni, ⟨ch, tg, tx, us⟩⟩) rfl (by rfl) (news_ent _ _ (by simp) no nn ni ch us tg tx) (by simp [encE, Value.oneCell']) (by unfold maxLen; omega) (by omega) (by simp at hws3 ⊢; omega) ?_; intro v' w4 hown' hgrow _ _; have HO := Lib.hid (And.intro hown' hgrow); clear hown' hgrow))
        go_roundg (names.length - (j + 1))
        case measure => omega
        case rel =>
          refine ⟨j + 1, v', by go_num, rfl, by omega, ?_, ?_⟩
          · rw [HT.out, HF.out]
            simpa using HO.out.1
          · exact ext_owns (owns_ext hA.out.1 (Z3.out.alloc _)) (hA.out.2.trans (Z3.out.alloc _)) (Nat.le_refl _) HO.out.2
      · have H := HF.out
        rw [if_neg he] at H
        have HF := Lib.hid H
        clear H
        have he' : (er == 0) = false := by simpa using he
        go_wp2_with fail
        go_roundg (names.length - (j + 1))
        case measure => omega
        case rel =>
          refine ⟨j + 1, v, by go_num, rfl, by omega, ?_, hA.out.2.trans Z3.out⟩
          rw [HT.out, HF.out]
          simpa using owns_ext hA.out.1 Z3.out
    · obtain rfl : j = names.length := by omega
      go_wp2_with fail
      go_ret
      refine ⟨_, rfl, ?_, HX.out.trans hA.out.2⟩
      have h1 := hA.out.1
      rw [List.take_length] at h1
      rw [HE.out]
      exact Rd.of_owns (enc := encE) (fun _ => rfl) h1
end Go.Proofs.YtehmgeodpjmfaaaGreatDoor
