/- codec: Reader. -/
import Derived.Deep.QuietTactic
import Derived.BigQuiet
import Derived.Laws.BytesArg
import Derived.Laws.IdiomStrings
import Derived.Test.YtehmgeodpjmfaaaGreatDoorGroups
import Derived.Test.YtehmgeodpjmfaaaGreatDoorApp
import Derived.Test.YtehmgeodpjmfaaaGreatDoorWriter
namespace Go.Proofs.YtehmgeodpjmfaaaGreatDoor
open Go.RowKit

/-- What Number's reader answers of bytes. -/
def numV (most : Int) (l : List UInt8) : Int × Nat × Int := if (prsL l).2.2 = 0 ∧ most < ((prsL l).1 : Int) then (0, 0, 2) else (((prsL l).1 : Int), (prsL l).2.1, (prsL l).2.2)
/-- What Text's reader answers. -/
def textV (most : Int) (l : List UInt8) : List UInt8 × Nat × Int :=
  if (prsL l).2.2 ≠ 0 then ([], 0, (prsL l).2.2)
  else if min most 16777216 < ((prsL l).1 : Int) then ([], 0, 5)
  else if (l.length : Int) - (prsL l).2.1 < (prsL l).1 then ([], 0, 28)
  else ((l.drop (prsL l).2.1).take (prsL l).1, (prsL l).2.1 + (prsL l).1, 0)
def RS.read {α : Type} (z : α) (val : List UInt8 → α × Nat × Int) (r : RS) : α × RS :=
  if r.f ≠ 0 then (z, r) else if (val r.rest).2.2 ≠ 0 then (z, { r with f := (val r.rest).2.2 }) else ((val r.rest).1, { r with at_ := r.at_ + (val r.rest).2.1 })

theorem num1_any (kb : Nat) (most : Int) (v : Value) (l : List UInt8) (w : World) (h : Rd w 1 encB v l) (hk : w.cell? ⟨kb, 0, none⟩ = some (.int .i64 most)) :
    Calls Tryz.prog 121 #[v, .pointer (some ⟨kb, 0, none⟩)] w fun e w' => e = .returned (.tuple #[.int .i64 (numV most l).1, .int .i64 (numV most l).2.1, .int .i64 (numV most l).2.2]) ∧ w = w' := by
  have HP := Lib.hid (fun W hW => parse_b v l W hW)
  have HH := Lib.hid h
  have hn := (parse_bound l).1
  have HN : Hid (numV most l = if (prsL l).2.2 = 0 ∧ most < ((prsL l).1 : Int) then (0, 0, 2) else (((prsL l).1 : Int), (prsL l).2.1, (prsL l).2.2)) := Lib.hid rfl
  generalize numV most l = N at HN ⊢
  generalize prsL l = p at HP HN hn
  obtain ⟨n, k, e⟩ := p
  simp only at HP HN hn
  clear h
  by_cases he : e = 0
  · subst he
    by_cases hm : most < (n : Int)
    · have H := HN.out
      rw [if_pos ⟨rfl, hm⟩] at H
      clear HN
      subst H
      go_enter Tryz.func121, Tryz.ntmps121
      go_wp2_with (go_at_call 122; refine (HP.out _ HH.out).mono ?_; rintro e w' ⟨rfl, rfl⟩)
      go_ret3
      exact ⟨rfl, rfl⟩
    · have H := HN.out
      rw [if_neg (fun h => hm h.2)] at H
      clear HN
      subst H
      go_enter Tryz.func121, Tryz.ntmps121
      go_wp2_with (go_at_call 122; refine (HP.out _ HH.out).mono ?_; rintro e w' ⟨rfl, rfl⟩)
      go_ret3
      exact ⟨rfl, rfl⟩
  · have H := HN.out
    rw [if_neg (fun h => he h.1)] at H
    clear HN
    subst H
    have he' : (e == 0) = false := by simp; omega
    go_enter Tryz.func121, Tryz.ntmps121
    go_wp2_with (go_at_call 122; refine (HP.out _ HH.out).mono ?_; rintro e w' ⟨rfl, rfl⟩)
    go_ret3
    exact ⟨rfl, rfl⟩

/-- s[k:] of a slice of bytes. -/
theorem run_slice_from (w : World) (A : Option Addr) (n c k : Nat) (hk : k ≤ n) : (Instr.slice 46 (.slice A n c) (some (.int .i64 k)) none none).run Tryz.prog w = .ok (.slice (if c = k then A else A.map (·.add (k * 1))) (n - k) (c - k)) w := by
  have hu := Tryz.underlying46
  obtain ⟨i0, hi, hz0, hz1, hz2⟩ := info_parts info_byte
  have h1 : (0 : Int) ≤ k ∧ (k : Int) ≤ n := by omega
  have h2 : ¬ n < k := by omega
  simp [h2, Instr.slice, run_underlying hu, Instr.sliceBounds, Instr.sliceBound, asIntOf, h1, sizeOf, typeInfo, hi, hz1]

/-- A Reader at block b in the state r; its bytes lie elsewhere. -/
def RAtV (w : World) (b : Nat) (A : Option Addr) (c : Nat) (r : RS) : Prop :=
  w.heap[b]? = some (Obj.cells #[.slice A r.b.length c, .int .i64 r.at_, .int .i64 r.f] 185 (0, 0)) ∧ r.at_ ≤ r.b.length ∧ r.b.length ≤ 1000000000 ∧ r.b.length ≤ c ∧
    (0 < r.b.length → ∃ g off, A = some ⟨g, off, none⟩ ∧ g ≠ b ∧ g < w.heap.size ∧ ∀ j, j < r.b.length → w.cell? ⟨g, off + j, none⟩ = some (.int .u8 (r.b.getD j 0).toNat))
def RAt (w : World) (b : Nat) (r : RS) : Prop := ∃ A c, RAtV w b A c r
theorem RAtV.upd {w w' : World} {b : Nat} {A : Option Addr} {c : Nat} {r : RS} (h : RAtV w b A c r) (hg : w.grownBy w' (some b)) {a' : Nat} {f' : Int}
    (hb : w'.heap[b]? = some (Obj.cells #[.slice A r.b.length c, .int .i64 a', .int .i64 f'] 185 (0, 0))) (ha : a' ≤ r.b.length) : RAtV w' b A c { r with at_ := a', f := f' } := by
  refine ⟨hb, ha, h.2.2.1, h.2.2.2.1, fun h0 => ?_⟩
  obtain ⟨g, off, hA, hne, hlt, hc⟩ := h.2.2.2.2 h0
  exact ⟨g, off, hA, hne, Nat.lt_of_lt_of_le hlt hg.size, fun j hj => hg.cell (hc j hj) (by simpa using hne)⟩
theorem RAtV.rest {w : World} {b : Nat} {A : Option Addr} {c : Nat} {r : RS} (h : RAtV w b A c r) (W : World) (hx : Ext w W) :
    Rd W 1 encB (.slice (if c = r.at_ then A else A.map (·.add (r.at_ * 1))) (r.b.length - r.at_) (c - r.at_)) r.rest := by
  obtain ⟨_, h1, h2, h3, h4⟩ := h
  have hl : r.rest.length = r.b.length - r.at_ := by unfold RS.rest; rw [List.length_drop]
  refine ⟨by rw [hl]; omega, (if c = r.at_ then A else A.map (·.add (r.at_ * 1))), c - r.at_, by rw [hl], fun h0 => ?_⟩
  rw [hl] at h0
  have h5 : ¬ c = r.at_ := by omega
  have h6 : ∀ j, j < r.rest.length → r.at_ + j < r.b.length := fun j hj => by rw [hl] at hj; omega
  have h7 : 0 < r.b.length := by omega
  rw [if_neg h5]
  clear h5 hl h0 h1 h2 h3
  obtain ⟨g, off, rfl, hne, hlt, hc⟩ := h4 h7
  refine ⟨g, off + r.at_, by rw [Option.map_some, addr_add, Nat.mul_one], Nat.lt_of_lt_of_le hlt hx.size, fun j hj i u hu => ?_⟩
  have hi : i = 0 := by
    have := (List.getElem?_eq_some_iff.1 hu).1
    simp [encB] at this; exact this
  subst hi
  simp [encB] at hu
  have := hx.cell_some (hc (r.at_ + j) (h6 j hj))
  rw [← hu, Nat.mul_one, Nat.add_zero, Nat.add_assoc, this]
  congr 3
  have hh := h6 j hj
  simp [RS.rest, hh]
theorem drewN_grown (w : World) (n : Nat) (row : Option Nat) : w.grownBy (w.drewN n) row :=
  have h := grownBy_of_ext ((Ext.refl w).drewN n)
  ⟨h.os, h.tape, h.output, h.size, fun k hk _ => h.block k hk (by simp)⟩

theorem RAtV.kept {w w' : World} {b : Nat} {A : Option Addr} {c : Nat} {r : RS} (h : RAtV w b A c r) (hg : Ext w w') : RAtV w' b A c r :=
  ⟨(hg.block (Array.getElem?_eq_some_iff.1 h.1).1).trans h.1, h.2.1, h.2.2.1, h.2.2.2.1, fun h0 => by
    obtain ⟨g, off, hA, hne, hlt, hc⟩ := h.2.2.2.2 h0
    exact ⟨g, off, hA, hne, Nat.lt_of_lt_of_le hlt hg.size, fun j hj => hg.cell_some (hc j hj)⟩⟩
theorem setCell_grown (w : World) (b k : Nat) (u : Value) : w.grownBy (w.setCell ⟨b, k, none⟩ u) (some b) := ⟨rfl, rfl, rfl, by simp, fun k _ hk => Below.heap_setCell _ _ _ _ (by simpa using hk)⟩
theorem RAtV.setF {w : World} {b : Nat} {A : Option Addr} {c : Nat} {r : RS} (h : RAtV w b A c r) (f : Int) : RAtV (w.setCell ⟨b, 2, none⟩ (.int .i64 f)) b A c { r with f := f } :=
  h.upd (setCell_grown w b 2 _) (heap_setCell_at h.1 _) h.2.1
theorem RAtV.setAt {w : World} {b : Nat} {A : Option Addr} {c : Nat} {r : RS} (h : RAtV w b A c r) (a : Nat) (ha : a ≤ r.b.length) : RAtV (w.setCell ⟨b, 1, none⟩ (.int .i64 a)) b A c { r with at_ := a } :=
  h.upd (setCell_grown w b 1 _) (heap_setCell_at h.1 _) ha
theorem numV_le (most : Int) (l : List UInt8) : (numV most l).2.1 ≤ l.length := by
  unfold numV; split
  · exact Nat.zero_le _
  · exact (parse_bound l).2.1
theorem textV_le (most : Int) (l : List UInt8) : (textV most l).2.1 ≤ l.length := by
  unfold textV
  have := (parse_bound l).2.1
  split
  · exact Nat.zero_le _
  · split
    · exact Nat.zero_le _
    · split
      · exact Nat.zero_le _
      · show (prsL l).2.1 + (prsL l).1 ≤ l.length
        omega

set_option maxHeartbeats 8000000 in
set_option maxRecDepth 100000 in
theorem readI_any (b kb : Nat) (most : Int) (r : RS) (A : Option Addr) (c : Nat) (w : World) (h : RAtV w b A c r) (hk : w.cell? ⟨kb, 0, none⟩ = some (.int .i64 most)) :
    Calls Tryz.prog 120 #[.pointer (some ⟨b, 0, none⟩), .func (.func 121) #[] #[.pointer (some ⟨kb, 0, none⟩)]] w fun e w' =>
      e = .returned (.int .i64 (r.read 0 (numV most)).1) ∧ RAtV w' b A c (r.read 0 (numV most)).2 ∧ w.grownBy w' (some b) := by
  have hR := h
  have hb := hR.1
  have c0 := (cells_at hb).1 0 _ rfl
  have c1 := (cells_at hb).1 1 _ rfl
  have c2 := (cells_at hb).1 2 _ rfl
  have f1 := (cells_at hb).2 1
  have f2 := (cells_at hb).2 2
  simp only [List.getElem_toArray, List.getElem_cons_zero, List.getElem_cons_succ] at c0 c1 c2
  have HR := Lib.hid hR
  have ha := hR.2.1
  have hlen := hR.2.2.1
  have hrest := hR.rest
  have hs := fun W => run_slice_from W A r.b.length c r.at_ ha
  generalize (if c = r.at_ then A else A.map (·.add (r.at_ * 1))) = A2 at hs hrest
  generalize r.b.length - r.at_ = n2 at hs hrest
  generalize c - r.at_ = c2' at hs hrest
  have HRest := Lib.hid hrest
  clear hR hb hrest h
  by_cases hf : r.f = 0
  · have HC := Lib.hid (fun n => (num1_any kb most _ _ (w.drewN n) (HRest.out _ ((Ext.refl w).drewN n)) ((Ext.refl w).drewN n |>.cell_some hk)))
    have hrun : RS.read 0 (numV most) r = if (numV most r.rest).2.2 ≠ 0 then (0, { r with f := (numV most r.rest).2.2 }) else ((numV most r.rest).1, { r with at_ := r.at_ + (numV most r.rest).2.1 }) := by
      unfold RS.read; rw [if_neg (by simpa using hf)]
    have hle := numV_le most r.rest
    have hle2 : (numV most r.rest).2.1 + r.at_ ≤ r.b.length := by
      have hl : r.rest.length = r.b.length - r.at_ := by unfold RS.rest; rw [List.length_drop]
      omega
    clear hle
    have HU := Lib.hid hrun
    clear hrun
    rw [hf] at c2
    generalize numV most r.rest = N at HC HU hle2
    obtain ⟨n, k, e⟩ := N
    simp only at HC HU hle2
    by_cases he : e = 0
    · subst he
      have H := HU.out
      rw [if_neg (by simp)] at H
      have HU := Lib.hid H
      clear H
      go_enter Tryz.func120, Tryz.ntmps120
      go_wp2_with fail
      go_quiet ((go_at_call 121; exact Calls.quiet_of_same ((HC.out _).mono fun _ _ ⟨he, hx⟩ => ⟨he, hx.symm⟩)))
      go_wp2_with fail
      go_ret
      rw [HU.out]
      have hw : r.at_ + k ≤ r.b.length := by omega
      exact ⟨rfl, (HR.out.setAt _ hw).kept ((Ext.refl _).drewN nq), (setCell_grown w b 1 _).trans (drewN_grown _ _ _)⟩
    · have H := HU.out
      rw [if_pos he] at H
      have HU := Lib.hid H
      clear H
      have he' : (e != 0) = true := by simp; omega
      go_enter Tryz.func120, Tryz.ntmps120
      go_wp2_with fail
      go_quiet ((go_at_call 121; exact Calls.quiet_of_same ((HC.out _).mono fun _ _ ⟨he, hx⟩ => ⟨he, hx.symm⟩)))
      go_wp2_with fail
      go_ret
      rw [HU.out]
      exact ⟨rfl, (HR.out.setF e).kept ((Ext.refl _).drewN nq), (setCell_grown w b 2 _).trans (drewN_grown _ _ _)⟩
  · have hf' : (r.f != 0) = true := by simp; omega
    have HU : Hid (RS.read 0 (numV most) r = (0, r)) := Lib.hid (by unfold RS.read; rw [if_pos hf])
    go_enter Tryz.func120, Tryz.ntmps120
    go_wp2_with fail
    go_ret
    rw [HU.out]
    exact ⟨rfl, HR.out, World.grownBy.refl _ _⟩

theorem conv_str (w : World) (v : Value) (l : List UInt8) (h : Rd w 1 encB v l) : (convert 46 9 v).run Tryz.prog w = .ok (.string ⟨l.toArray⟩) w := by
  obtain ⟨_, A, c, rfl, hr⟩ := h.byte
  cases A with
  | none =>
    have h0 : l = [] := by
      rcases Nat.eq_zero_or_pos l.length with h0 | h0
      · exact List.length_eq_zero_iff.1 h0
      · obtain ⟨b, off, hA, _⟩ := hr h0; cases hA
    subst h0
    rw [run_convert_bytes_nil w _ _ Tryz.underlying46 Tryz.underlying5 _ _ _ Tryz.underlying9]
    rfl
  | some a =>
    refine run_convert_bytes_back w _ _ _ a c l Tryz.underlying46 Tryz.underlying5 Tryz.underlying9 (fun j hj => ?_)
    obtain ⟨b, off, hA, _, hc⟩ := hr (by omega)
    cases hA
    rw [addr_add, hc j hj]
    simp [hj]
theorem run_slice_mid (w : World) (A : Option Addr) (n c k m : Nat) (hk : k + m ≤ c) : (Instr.slice 46 (.slice A n c) (some (.int .i64 k)) (some (.int .i64 ((k : Int) + (m : Int)))) none).run Tryz.prog w = .ok (.slice (if c = k then A else A.map (·.add (k * 1))) m (c - k)) w := by
  have hu := Tryz.underlying46
  obtain ⟨i0, hi, hz0, hz1, hz2⟩ := info_parts info_byte
  have h1 : (0 : Int) ≤ (k : Int) + m ∧ (k : Int) + m ≤ c := by omega
  have h3 : ((k : Int) + (m : Int)).toNat = k + m := by omega
  have h2 : k ≤ k + m := by omega
  have h4 : ¬ c < k + m := by omega
  have h5 : (0 : Int) ≤ (k : Int) + m := by omega
  have h6 : ((k : Int) + m ≤ (c : Int)) := by omega
  simp [Instr.slice, run_underlying hu, Instr.sliceBounds, Instr.sliceBound, asIntOf, sizeOf, typeInfo, hi, hz1, h3, h5, h6]
theorem Rd.mid {w : World} {A : Option Addr} {c : Nat} {l : List UInt8} (h : Rd w 1 encB (.slice A l.length c) l) (hc : l.length ≤ c) (k m : Nat) (hk : k + m ≤ l.length) :
    Rd w 1 encB (.slice (if c = k then A else A.map (·.add (k * 1))) m (c - k)) ((l.drop k).take m) := by
  have hl : ((l.drop k).take m).length = m := by rw [List.length_take, List.length_drop]; omega
  obtain ⟨hm, A', c', hv, hr⟩ := h
  cases hv
  refine ⟨by rw [hl]; omega, (if c = k then A else A.map (·.add (k * 1))), c - k, by rw [hl], fun h0 => ?_⟩
  rw [hl] at h0
  have h5 : ¬ c = k := by omega
  have h6 : ∀ j, j < ((l.drop k).take m).length → k + j < l.length := fun j hj => by rw [hl] at hj; omega
  have h7 : 0 < l.length := by omega
  rw [if_neg h5]
  clear h5 hl h0 hc hk hm
  obtain ⟨b, off, rfl, hb, hcs⟩ := hr h7
  refine ⟨b, off + k, by rw [Option.map_some, addr_add, Nat.mul_one], hb, fun j hj i u hu => ?_⟩
  have e : ((l.drop k).take m)[j] = l[k + j]'(h6 j hj) := by rw [List.getElem_take, List.getElem_drop]
  rw [e] at hu
  have := hcs (k + j) (h6 j hj) i u hu
  rw [show off + k + j * 1 + i = off + (k + j) * 1 + i by omega]
  exact this

set_option maxHeartbeats 4000000 in
set_option maxRecDepth 100000 in
theorem text1_any (kb : Nat) (most : Int) (A : Option Addr) (c : Nat) (l : List UInt8) (w : World) (h : Rd w 1 encB (.slice A l.length c) l) (hlc : l.length ≤ c) (hk : w.cell? ⟨kb, 0, none⟩ = some (.int .i64 most)) :
    Calls Tryz.prog 124 #[.slice A l.length c, .pointer (some ⟨kb, 0, none⟩)] w fun e w' => e = .returned (.tuple #[.string ⟨(textV most l).1.toArray⟩, .int .i64 (textV most l).2.1, .int .i64 (textV most l).2.2]) ∧ w = w' := by
  have HP := Lib.hid (fun W hW => parse_b (.slice A l.length c) l W hW)
  have hm := h.1
  have hn := (parse_bound l).1
  have hsz := (parse_bound l).2.1
  have HN : Hid (textV most l = if (prsL l).2.2 ≠ 0 then ([], 0, (prsL l).2.2) else if min most 16777216 < ((prsL l).1 : Int) then ([], 0, 5) else if (l.length : Int) - (prsL l).2.1 < (prsL l).1 then ([], 0, 28) else ((l.drop (prsL l).2.1).take (prsL l).1, (prsL l).2.1 + (prsL l).1, 0)) := Lib.hid rfl
  have HH := Lib.hid h
  generalize textV most l = N at HN ⊢
  generalize prsL l = p at HP HN hn hsz
  obtain ⟨n, k, e⟩ := p
  simp only at HP HN hn hsz
  clear h
  by_cases he : e = 0
  · subst he
    by_cases h1 : min most 16777216 < (n : Int)
    · have H := HN.out
      rw [if_neg (by simp), if_pos h1] at H
      clear HN
      subst H
      go_enter Tryz.func124, Tryz.ntmps124
      go_wp2_with (go_at_call 122; refine (HP.out _ HH.out).mono ?_; rintro e w' ⟨rfl, rfl⟩)
      all_goals go_ret3
      all_goals exact ⟨rfl, rfl⟩
    · by_cases h2 : (l.length : Int) - k < n
      · have H := HN.out
        rw [if_neg (by simp), if_neg h1, if_pos h2] at H
        clear HN
        subst H
        go_enter Tryz.func124, Tryz.ntmps124
        go_wp2_with (go_at_call 122; refine (HP.out _ HH.out).mono ?_; rintro e w' ⟨rfl, rfl⟩)
        all_goals go_ret3
        all_goals exact ⟨rfl, rfl⟩
      · have H := HN.out
        rw [if_neg (by simp), if_neg h1, if_neg h2] at H
        clear HN
        subst H
        have hkn : k + n ≤ l.length := by omega
        have hs := run_slice_mid w A l.length c k n (by omega)
        have hcv := conv_str w _ _ (HH.out.mid hlc k n hkn)
        generalize (if c = k then A else A.map (·.add (k * 1))) = A3 at hs hcv
        generalize c - k = c3 at hs hcv
        go_enter Tryz.func124, Tryz.ntmps124
        go_wp2_with (go_at_call 122; refine (HP.out _ HH.out).mono ?_; rintro e w' ⟨rfl, rfl⟩)
        all_goals go_ret3
        all_goals exact ⟨rfl, rfl⟩
  · have H := HN.out
    rw [if_pos he] at H
    clear HN
    subst H
    have he' : (e != 0) = true := by simp; omega
    go_enter Tryz.func124, Tryz.ntmps124
    go_wp2_with (go_at_call 122; refine (HP.out _ HH.out).mono ?_; rintro e w' ⟨rfl, rfl⟩)
    all_goals go_ret3
    all_goals exact ⟨rfl, rfl⟩

set_option maxHeartbeats 8000000 in
set_option maxRecDepth 100000 in
theorem readS_any (b kb : Nat) (most : Int) (r : RS) (A : Option Addr) (c : Nat) (w : World) (h : RAtV w b A c r) (hk : w.cell? ⟨kb, 0, none⟩ = some (.int .i64 most)) :
    Calls Tryz.prog 123 #[.pointer (some ⟨b, 0, none⟩), .func (.func 124) #[] #[.pointer (some ⟨kb, 0, none⟩)]] w fun e w' =>
      e = .returned (.string ⟨(r.read [] (textV most)).1.toArray⟩) ∧ RAtV w' b A c (r.read [] (textV most)).2 ∧ w.grownBy w' (some b) := by
  have hR := h
  have hb := hR.1
  have c0 := (cells_at hb).1 0 _ rfl
  have c1 := (cells_at hb).1 1 _ rfl
  have c2 := (cells_at hb).1 2 _ rfl
  have f1 := (cells_at hb).2 1
  have f2 := (cells_at hb).2 2
  simp only [List.getElem_toArray, List.getElem_cons_zero, List.getElem_cons_succ] at c0 c1 c2
  have HR := Lib.hid hR
  have ha := hR.2.1
  have hlen := hR.2.2.1
  have hrest := hR.rest
  have hs := fun W => run_slice_from W A r.b.length c r.at_ ha
  generalize (if c = r.at_ then A else A.map (·.add (r.at_ * 1))) = A2 at hs hrest
  have hl2 : r.b.length - r.at_ = r.rest.length := by unfold RS.rest; rw [List.length_drop]
  have hcap : r.rest.length ≤ c - r.at_ := by have := hR.2.2.2.1; omega
  rw [hl2] at hs hrest
  generalize c - r.at_ = c2' at hs hrest hcap
  have HRest := Lib.hid hrest
  clear hR hb hrest h
  by_cases hf : r.f = 0
  · have HC := Lib.hid (fun n => (text1_any kb most A2 c2' r.rest (w.drewN n) (HRest.out _ ((Ext.refl w).drewN n)) hcap ((Ext.refl w).drewN n |>.cell_some hk)))
    have hrun : RS.read [] (textV most) r = if (textV most r.rest).2.2 ≠ 0 then ([], { r with f := (textV most r.rest).2.2 }) else ((textV most r.rest).1, { r with at_ := r.at_ + (textV most r.rest).2.1 }) := by
      unfold RS.read; rw [if_neg (by simpa using hf)]
    have hle := textV_le most r.rest
    have hle2 : (textV most r.rest).2.1 + r.at_ ≤ r.b.length := by
      have hl : r.rest.length = r.b.length - r.at_ := by unfold RS.rest; rw [List.length_drop]
      omega
    clear hle
    have HU := Lib.hid hrun
    clear hrun
    rw [hf] at c2
    generalize textV most r.rest = N at HC HU hle2
    obtain ⟨n, k, e⟩ := N
    simp only at HC HU hle2
    by_cases he : e = 0
    · subst he
      have H := HU.out
      rw [if_neg (by simp)] at H
      have HU := Lib.hid H
      clear H
      go_enter Tryz.func123, Tryz.ntmps123
      go_wp2_with fail
      go_quiet ((go_at_call 124; exact Calls.quiet_of_same ((HC.out _).mono fun _ _ ⟨he, hx⟩ => ⟨he, hx.symm⟩)))
      go_wp2_with fail
      go_ret
      rw [HU.out]
      have hw : r.at_ + k ≤ r.b.length := by omega
      exact ⟨rfl, (HR.out.setAt _ hw).kept ((Ext.refl _).drewN nq), (setCell_grown w b 1 _).trans (drewN_grown _ _ _)⟩
    · have H := HU.out
      rw [if_pos he] at H
      have HU := Lib.hid H
      clear H
      have he' : (e != 0) = true := by simp; omega
      go_enter Tryz.func123, Tryz.ntmps123
      go_wp2_with fail
      go_quiet ((go_at_call 124; exact Calls.quiet_of_same ((HC.out _).mono fun _ _ ⟨he, hx⟩ => ⟨he, hx.symm⟩)))
      go_wp2_with fail
      go_ret
      rw [HU.out]
      exact ⟨rfl, (HR.out.setF e).kept ((Ext.refl _).drewN nq), (setCell_grown w b 2 _).trans (drewN_grown _ _ _)⟩
  · have hf' : (r.f != 0) = true := by simp; omega
    have HU : Hid (RS.read [] (textV most) r = ([], r)) := Lib.hid (by unfold RS.read; rw [if_pos hf])
    go_enter Tryz.func123, Tryz.ntmps123
    go_wp2_with fail
    go_ret
    rw [HU.out]
    exact ⟨rfl, HR.out, World.grownBy.refl _ _⟩

theorem number_r (b : Nat) (most : Int) (r : RS) (A : Option Addr) (c : Nat) (w : World) (h : RAtV w b A c r) :
    Calls Tryz.prog 94 #[.pointer (some ⟨b, 0, none⟩), .int .i64 most] w fun e w' => e = .returned (.int .i64 (r.read 0 (numV most)).1) ∧ RAtV w' b A c (r.read 0 (numV most)).2 ∧ w.grownBy w' (some b) := by
  have hR := h
  have HR := Lib.hid hR
  clear hR h
  go_enter Tryz.func94, Tryz.ntmps94
  go_wp2_with (go_at_call 120; refine (readI_any b w.heap.size most r A c _ (HR.out.kept ((Ext.refl w).alloc _)) (by simp)).mono ?_; rintro e w' ⟨rfl, hr, hg⟩; have HZ := Lib.hid (And.intro hr hg); clear hr hg)
  go_ret
  exact ⟨rfl, HZ.out.1, (World.grownBy_alloc _ _ _).trans HZ.out.2⟩
theorem text_r (b : Nat) (most : Int) (r : RS) (A : Option Addr) (c : Nat) (w : World) (h : RAtV w b A c r) :
    Calls Tryz.prog 95 #[.pointer (some ⟨b, 0, none⟩), .int .i64 most] w fun e w' => e = .returned (.string ⟨(r.read [] (textV most)).1.toArray⟩) ∧ RAtV w' b A c (r.read [] (textV most)).2 ∧ w.grownBy w' (some b) := by
  have hR := h
  have HR := Lib.hid hR
  clear hR h
  go_enter Tryz.func95, Tryz.ntmps95
  go_wp2_with (go_at_call 123; refine (readS_any b w.heap.size most r A c _ (HR.out.kept ((Ext.refl w).alloc _)) (by simp)).mono ?_; rintro e w' ⟨rfl, hr, hg⟩; have HZ := Lib.hid (And.intro hr hg); clear hr hg)
  go_ret
  exact ⟨rfl, HZ.out.1, (World.grownBy_alloc _ _ _).trans HZ.out.2⟩
end Go.Proofs.YtehmgeodpjmfaaaGreatDoor
