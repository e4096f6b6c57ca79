/- law 50: what Compare's answer says of places and outputs: no program. -/
import Derived.Test.YtehmgeodpjmfaaaGreatDoorSorted
import Derived.Test.YtehmgeodpjmfaaaGreatDoorEqual
import Derived.Test.YtehmgeodpjmfaaaGreatDoorKnown
namespace Go.Proofs.YtehmgeodpjmfaaaGreatDoor
open Go.RowKit

/-- The consequence c speaks of the output x as what would leave. -/
def sameE (c : ConsS) (x : EntS) : Bool := decide (c.own = x.own) && (decide (c.num = x.num) && (decide (c.newAt = x.tick) && decide (c.new = x.out)))
theorem compareL_len (all : List EntS) (l : List LeftS) : l.length ≤ (compareL all l).length := by
  unfold compareL; rw [List.length_append, consL_len]; omega
theorem consOf_pk (all : List EntS) (j : Nat) (x : EntS) : (consOf all j x).place = (j : Int) ∧ (consOf all j x).kind ≠ 4 := by
  unfold consOf
  split
  · exact ⟨rfl, by show ¬ (1 : Int) = 4; decide⟩
  · split
    · exact ⟨rfl, by show ¬ (3 : Int) = 4; decide⟩
    · exact ⟨rfl, by show ¬ (2 : Int) = 4; decide⟩
theorem cmp_low (all : List EntS) (l : List LeftS) (i : Nat) (h : i < (compareL all l).length) (hl : i < l.length) : (compareL all l)[i].place = (i : Int) ∧ (compareL all l)[i].kind ≠ 4 := by
  have hg : (compareL all l)[i]? = some (consOf all (0 + i) l[i].ent) := by
    unfold compareL
    rw [List.getElem?_append_left (by rw [consL_len]; exact hl), consL_get all l 0 i hl]
  rw [List.getElem?_eq_getElem h] at hg
  rw [Option.some.inj hg, Nat.zero_add]
  exact consOf_pk all i _
theorem cmp_high (all : List EntS) (l : List LeftS) (i : Nat) (h : i < (compareL all l).length) (hl : l.length ≤ i) : (compareL all l)[i].place = -1 ∧ (compareL all l)[i].kind = 4 := by
  have hm : (compareL all l)[i] ∈ (all.filter (fun x => decide (x ∉ metL all l))).map consN := by
    have hg : (compareL all l)[i]? = ((all.filter (fun x => decide (x ∉ metL all l))).map consN)[i - l.length]? := by
      unfold compareL
      rw [List.getElem?_append_right (by rw [consL_len]; exact hl), consL_len]
    rw [List.getElem?_eq_getElem h] at hg
    exact List.mem_of_getElem? hg.symm
  obtain ⟨x, _, hx⟩ := List.mem_map.1 hm
  rw [← hx]
  exact ⟨rfl, rfl⟩
theorem consL_mem (all : List EntS) : ∀ (l : List LeftS) (j : Nat) (y : LeftS), y ∈ l → ∃ i, consOf all i y.ent ∈ consL all j l
  | x :: l, j, y, h => by
    rcases List.mem_cons.1 h with rfl | h
    · exact ⟨j, by simp [consL]⟩
    · obtain ⟨i, hi⟩ := consL_mem all l (j + 1) y h
      exact ⟨i, by rw [consL]; exact List.mem_cons_of_mem _ hi⟩
theorem cmp_found (all : List EntS) (l : List LeftS) (x : EntS) (h : x ∈ all) : (compareL all l).any (fun c => sameE c x && decide (c.kind ≠ 2)) = true := by
  rw [List.any_eq_true]
  by_cases hm : x ∈ metL all l
  · unfold metL at hm
    obtain ⟨y, hy, hx⟩ := List.mem_filterMap.1 hm
    obtain ⟨i, hi⟩ := consL_mem all l 0 y hy
    refine ⟨_, by unfold compareL; exact List.mem_append_left _ hi, ?_⟩
    unfold metOf at hx
    unfold consOf
    split at hx
    · rename_i h1
      cases hx
      rw [if_pos h1]
      simp [sameE]
    · rename_i h1
      rw [if_neg h1, hx]
      have := (firstL_mem hx).2
      unfold slotOf at this
      rw [SlotS.mk.injEq] at this
      simp [sameE, this.1, this.2]
  · refine ⟨consN x, ?_, by simp [sameE, consN]⟩
    unfold compareL
    exact List.mem_append_right _ (List.mem_map.2 ⟨x, List.mem_filter.2 ⟨h, by simpa using hm⟩, rfl⟩)
theorem countP_none {α : Type} (p : α → Bool) : ∀ l : List α, (∀ x ∈ l, p x = false) → l.countP p = 0
  | [], _ => rfl
  | x :: l, h => by rw [List.countP_cons, countP_none p l (fun y hy => h y (by simp [hy])), h x (by simp)]; rfl
theorem consL_kind (all : List EntS) : ∀ (l : List LeftS) (j : Nat), ∀ c ∈ consL all j l, c.kind ≠ 4
  | [], _, c, h => by cases h
  | x :: l, j, c, h => by
    rw [consL] at h
    rcases List.mem_cons.1 h with rfl | h
    · exact (consOf_pk all j _).2
    · exact consL_kind all l (j + 1) c h
theorem countP_once (x : EntS) : ∀ l : List EntS, l.Nodup → l.countP (fun y => sameE (consN y) x && decide ((consN y).kind = 4)) ≤ 1
  | [], _ => by simp
  | y :: l, h => by
    obtain ⟨h1, h2⟩ := List.nodup_cons.1 h
    rw [List.countP_cons]
    split
    · rename_i hs
      have hyx : y = x := by
        obtain ⟨a, b, c, d⟩ := y
        obtain ⟨a', b', c', d'⟩ := x
        simp only [sameE, consN, Bool.and_eq_true] at hs
        obtain ⟨⟨h1, h2, h3, h4⟩, _⟩ := hs
        rw [of_decide_eq_true h1, of_decide_eq_true h2, of_decide_eq_true h3, of_decide_eq_true h4]
      rw [countP_none _ l]
      · omega
      · intro z hz
        have hzx : z ≠ x := fun e => h1 (by rw [hyx, ← e]; exact hz)
        cases hb : (sameE (consN z) x && decide ((consN z).kind = 4)) with
        | false => rfl
        | true =>
          refine absurd ?_ hzx
          obtain ⟨a, b, c, d⟩ := z
          obtain ⟨a', b', c', d'⟩ := x
          simp only [sameE, consN, Bool.and_eq_true] at hb
          obtain ⟨⟨h1, h2, h3, h4⟩, _⟩ := hb
          rw [of_decide_eq_true h1, of_decide_eq_true h2, of_decide_eq_true h3, of_decide_eq_true h4]
    · have := countP_once x l h2
      omega
theorem cmp_once (all : List EntS) (hn : all.Nodup) (l : List LeftS) (x : EntS) : (compareL all l).countP (fun c => sameE c x && decide (c.kind = 4)) ≤ 1 := by
  unfold compareL
  rw [List.countP_append, countP_none _ (consL all 0 l) (fun c hc => by simp [consL_kind all l 0 c hc]), List.countP_map]
  have := countP_once x _ (List.Nodup.sublist List.filter_sublist hn : (all.filter (fun x => decide (x ∉ metL all l))).Nodup)
  rw [Nat.zero_add]
  exact this
theorem any_take {α : Type} (p : α → Bool) (l : List α) (j : Nat) (h : j < l.length) : (l.take (j + 1)).any p = ((l.take j).any p || p l[j]) := by
  rw [take_snoc l j h, List.any_append, List.any_cons, List.any_nil, Bool.or_false]
theorem countP_take {α : Type} (p : α → Bool) (l : List α) (j : Nat) (h : j < l.length) : (l.take (j + 1)).countP p = (l.take j).countP p + (if p l[j] = true then 1 else 0) := by
  rw [take_snoc l j h, List.countP_append, List.countP_cons, List.countP_nil, Nat.zero_add]
theorem EntOk.out {e : EntS} (h : EntOk e) : OutOk e.out := by
  obtain ⟨_, _, _, h1, h2, h3, h4⟩ := h
  exact ⟨h1, by unfold SOk; omega, by unfold SOk; omega, h4⟩
theorem outZ_ok : OutOk outZ := ⟨by unfold I64 outZ; decide, by unfold SOk outZ; decide, by unfold SOk outZ; decide, by unfold I64 outZ; decide⟩
theorem I64.nat {j : Nat} (h : j ≤ 1000000000) : I64 (j : Int) := by unfold I64; omega
theorem consOf_ok {all : List EntS} (hE : ∀ e ∈ all, EntOk e) {x : EntS} (hx : EntOk x) {j : Nat} (hj : j ≤ 1000000000) : ConsOk (consOf all j x) := by
  have ho := hx.out
  obtain ⟨g1, g2, g3, _⟩ := id hx
  have s1 : SOk x.own := by unfold SOk; omega
  unfold consOf
  split
  · exact ⟨by show I64 1; unfold I64; decide, s1, g2, .nat hj, ho, g3, ho, g3⟩
  · split
    · rename_i y hy
      have hk := hE _ (firstL_mem hy).1
      exact ⟨by show I64 3; unfold I64; decide, s1, g2, .nat hj, ho, g3, hk.out, hk.2.2.1⟩
    · exact ⟨by show I64 2; unfold I64; decide, s1, g2, .nat hj, ho, g3, outZ_ok, by show I64 0; unfold I64; decide⟩
theorem consN_ok {x : EntS} (hx : EntOk x) : ConsOk (consN x) :=
  ⟨by show I64 4; unfold I64; decide, by have := hx.1; show SOk x.own; unfold SOk; omega, hx.2.1, by show I64 (-1); unfold I64; decide, outZ_ok, by show I64 0; unfold I64; decide, hx.out, hx.2.2.1⟩
theorem consL_ok {all : List EntS} (hE : ∀ e ∈ all, EntOk e) : ∀ (l : List LeftS) (j : Nat), (∀ x ∈ l, EntOk x.ent) → j + l.length ≤ 1000000000 → ∀ c ∈ consL all j l, ConsOk c
  | [], _, _, _, c, h => by cases h
  | x :: l, j, hl, hj, c, h => by
    rw [List.length_cons] at hj
    rw [consL] at h
    rcases List.mem_cons.1 h with rfl | h
    · exact consOf_ok hE (hl x (by simp)) (by omega)
    · exact consL_ok hE l (j + 1) (fun y hy => hl y (by simp [hy])) (by omega) c h
theorem compareL_ok {all : List EntS} (hE : ∀ e ∈ all, EntOk e) {l : List LeftS} (hl : ∀ x ∈ l, EntOk x.ent) (hj : l.length ≤ 1000000000) : ∀ c ∈ compareL all l, ConsOk c := fun c hc => by
  unfold compareL at hc
  rcases List.mem_append.1 hc with h | h
  · exact consL_ok hE l 0 hl (by omega) c h
  · obtain ⟨x, hx, rfl⟩ := List.mem_map.1 h
    exact consN_ok (hE x (List.mem_filter.1 hx).1)
theorem ledB_ok (l : List ItemS) (i : Nat) : ∀ x ∈ ledB i l, EntOk x.ent := fun x hx => by
  obtain ⟨z, _, e⟩ := ledB_mem _ _ _ hx
  rw [e]; exact entI_ok z
def outVs (o : OutS) : Value := .agg #[.int .i64 o.chan, .string o.target, .string o.text, .int .i64 o.user]
theorem outK_inj {a b : OutS} (h : outK a = outK b) : a = b := by
  obtain ⟨c1, t1, x1, u1⟩ := a
  obtain ⟨c2, t2, x2, u2⟩ := b
  simp only [outK, List.cons.injEq, Lit.int.injEq, Lit.string.injEq, true_and, and_true] at h
  obtain ⟨rfl, h2, h3, rfl⟩ := h
  rw [ba_ext h2, ba_ext h3]
theorem formed_out (o : OutS) : (outVs o).formed Tryz.prog 35 = true := by
  have u := Tryz.underlying35
  have c0 : Tryz.prog.cellsOf 35 = 4 := by kernel_rfl
  simp [Value.formed, outVs, u, c0]
theorem eql_out (a b : OutS) (ha : OutOk a) (hb : OutOk b) (w : World) : (Op.equalIn 10000 35 (outVs a) (outVs b)).run Tryz.prog w = .ok (decide (a = b)) w := by
  obtain ⟨r, hr, hi⟩ := eql_deep (P := Tryz.prog) (t := 35) 100 (by decide) (by kernel_rfl) w 2 2 (outVs a) (outVs b) _ _ (formed_out a) (formed_out b) (kl_output 0 a ha) (kl_output 0 b hb)
  have h : r = decide (a = b) := by
    by_cases e : a = b
    · rw [decide_eq_true e]; exact hi.2 (by rw [e])
    · rw [decide_eq_false e]
      cases r with
      | false => rfl
      | true => exact absurd (outK_inj (hi.1 rfl)) e
  rw [← h]; exact hr
theorem ba_ne {a b : ByteArray} (h : ¬ a = b) : ¬ a.toList = b.toList := by rw [Lib.toList_data, Lib.toList_data]; exact fun e => h (ba_ext e)
end Go.Proofs.YtehmgeodpjmfaaaGreatDoor
