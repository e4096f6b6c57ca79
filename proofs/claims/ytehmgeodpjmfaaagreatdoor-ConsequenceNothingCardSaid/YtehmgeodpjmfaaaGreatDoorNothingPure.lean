/- law 50: if exactly the outputs of a state have left, Compare says Same of each: no program. -/
import Derived.Test.YtehmgeodpjmfaaaGreatDoorPlacesPure
import Derived.Test.YtehmgeodpjmfaaaGreatDoorCount
import Derived.Test.YtehmgeodpjmfaaaGreatDoorCountsPure
namespace Go.Proofs.YtehmgeodpjmfaaaGreatDoor
open Go.RowKit

def left100 (e : EntS) : LeftS := ⟨e, 100, 0⟩
theorem allL_item (xs : List ItemS) : ∀ e ∈ allL (stB xs), ∃ x z : ItemS, e = ⟨whoN x.who, ((x.num % 4 : Nat) : Int), ((x.tick % 8 : Nat) : Int), itemOut z⟩ := fun e he => by
  unfold allL at he
  obtain ⟨n, hn, he⟩ := List.mem_filterMap.1 he
  obtain ⟨y, hy, rfl⟩ := List.mem_map.1 (List.mem_filter.1 hn).1
  obtain ⟨x, hx, rfl⟩ := stB_mem xs y hy
  unfold entOf BT.val at he
  cases hg : (stB xs).get (nameOf x) with
  | none =>
    rw [hg] at he
    simp only [Option.getD_none] at he
    rw [if_neg (by decide)] at he
    cases he
  | some v =>
    obtain ⟨z, rfl⟩ := get_stB xs _ _ hg
    rw [hg, Option.getD_some, valOf_list, decL_outL (itemOut_chk z), if_pos rfl] at he
    cases he
    exact ⟨x, z, rfl⟩
/-- The rounds so far: which places are marked, and what has left. -/
structure NoS (all : List EntS) (n0 i : Nat) (S : List Bool) (L : List LeftS) : Prop where
  len : S.length = all.length
  only : ∀ x ∈ L, ∃ e ∈ all, x = left100 e
  mark : ∀ k (h : k < all.length), S[k]? = some true → left100 all[k] ∈ L
  done : ∀ k, k < all.length → k + n0 < i → S[k]? = some true
  small : L.length ≤ i
theorem NoS.start (all : List EntS) (n0 : Nat) : NoS all n0 0 (List.replicate all.length false) [] :=
  ⟨by simp, (fun x hx => by cases hx), (fun k h hk => by simp [h] at hk), (fun k _ h => by omega), Nat.le_refl _⟩
theorem NoS.skip {all : List EntS} {n0 i : Nat} {S : List Bool} {L : List LeftS} (h : NoS all n0 i S L) (hk : ∀ k, k < all.length → k + n0 = i → S[k]? = some true) : NoS all n0 (i + 1) S L :=
  ⟨h.len, h.only, h.mark, fun k h1 h2 => (Nat.lt_or_ge (k + n0) i).elim (h.done k h1) (fun h3 => hk k h1 (by omega)), by have := h.small; omega⟩
theorem NoS.add {all : List EntS} {n0 i : Nat} {S : List Bool} {L : List LeftS} (h : NoS all n0 i S L) (k : Nat) (hlt : k < all.length) (hk : i < n0 ∨ k + n0 = i) : NoS all n0 (i + 1) (S.set k true) (L ++ [left100 all[k]]) := by
  have hl := h.len
  refine ⟨by simp [hl], ?_, ?_, ?_, by have := h.small; simp; omega⟩
  · intro x hx
    rcases List.mem_append.1 hx with hx | hx
    · exact h.only x hx
    · obtain rfl : x = left100 all[k] := by simpa using hx
      exact ⟨_, List.getElem_mem hlt, rfl⟩
  · intro j hj hjt
    by_cases e : k = j
    · subst e; simp
    · rw [List.getElem?_set_ne e] at hjt
      exact List.mem_append_left _ (h.mark j hj hjt)
  · intro j hj hji
    by_cases e : k = j
    · subst e; rw [List.getElem?_set_self (by omega)]
    · rw [List.getElem?_set_ne e]
      exact h.done j hj (by omega)
theorem left100_chk {xs : List ItemS} {n0 i : Nat} {S : List Bool} {L : List LeftS} (h : NoS (allL (stB xs)) n0 i S L) (hi : i < 100000) (e : EntS) (he : e ∈ allL (stB xs)) : leftChk L (left100 e) = 0 ∧ SizeL (left100 e) := by
  obtain ⟨x, z, rfl⟩ := allL_item xs e he
  have h1 : x.num % 4 < 4 := by omega
  have h2 : x.tick % 8 < 8 := by omega
  constructor
  · unfold leftChk left100
    rw [if_neg (by show ¬ validS (whoN x.who).data.toList = false; rw [whoN_valid]; simp), if_neg, if_neg (by simp [itemOut_chk]), if_neg, if_neg]
    · have := h.small; omega
    · unfold ledOld
      cases hl : L.getLast? with
      | none => simp
      | some y =>
        obtain ⟨e, _, rfl⟩ := h.only y (List.mem_of_getLast? hl)
        simp [left100]
    · have a1 : inR ((x.num % 4 : Nat) : Int) 1048576 = true := inR_true (by omega) (by omega)
      have a2 : inR ((x.tick % 8 : Nat) : Int) 1073741824 = true := inR_true (by omega) (by omega)
      have a3 : inR 100 1073741824 = true := inR_true (by omega) (by omega)
      have a4 : inR 0 1048576 = true := inR_true (by omega) (by omega)
      simp only [a1, a2, a3, a4]
      simp
  · have := whoN_size x.who
    have := cut20_size z.text
    refine ⟨by show (whoN x.who).size ≤ _; omega, by show (⟨#[116]⟩ : ByteArray).size ≤ _; decide, by show (cut20 z.text).size ≤ _; omega⟩
theorem consL_same {all : List EntS} : ∀ (l : List LeftS) (j : Nat), (∀ x ∈ l, x.ent ∈ all) → ∀ c ∈ consL all j l, c.kind = 1
  | [], _, _, c, h => by cases h
  | x :: l, j, hl, c, h => by
    rw [consL] at h
    rcases List.mem_cons.1 h with rfl | h
    · unfold consOf; rw [if_pos (hl x (by simp))]
    · exact consL_same l (j + 1) (fun y hy => hl y (by simp [hy])) c h
theorem count_same : ∀ (l : List ConsS) (x : C5), (∀ c ∈ l, c.kind = 1) → l.foldl (fun x c => bumpK x c.kind) x = { x with b := x.b + l.length }
  | [], x, _ => by simp
  | c :: l, x, h => by
    have hc := h c (by simp)
    rw [List.foldl_cons, count_same l _ (fun y hy => h y (by simp [hy])), hc]
    simp only [bumpK, if_pos, List.length_cons]
    congr 1
    omega
/-- What the law looks at in the end. -/
theorem NoS.fin {all : List EntS} {n0 : Nat} {S : List Bool} {L : List LeftS} (h : NoS all n0 (n0 + all.length) S L) :
    (compareL all L).length = L.length ∧ countL (compareL all L) = ⟨0, L.length, 0, 0, 0⟩ ∧ diffL (compareL all L) = [] := by
  have hin : ∀ x ∈ L, x.ent ∈ all := fun x hx => by
    obtain ⟨e, he, rfl⟩ := h.only x hx
    exact he
  have hf : all.filter (fun x => decide (x ∉ metL all L)) = [] := by
    rw [List.filter_eq_nil_iff]
    intro e he
    obtain ⟨k, hk, rfl⟩ := List.mem_iff_getElem.1 he
    have hm := h.mark k hk (h.done k hk (by omega))
    have : all[k] ∈ metL all L := by
      unfold metL
      exact List.mem_filterMap.2 ⟨_, hm, by unfold metOf left100; rw [if_pos (List.getElem_mem hk)]⟩
    simpa using this
  have hc : compareL all L = consL all 0 L := by unfold compareL; rw [hf]; simp
  have hk := consL_same L 0 hin
  rw [hc]
  refine ⟨consL_len _ _ _, ?_, ?_⟩
  · unfold countL
    rw [count_same _ _ hk, consL_len]
    simp
  · unfold diffL
    rw [List.filter_eq_nil_iff]
    intro c hcm
    simp [hk c hcm]
end Go.Proofs.YtehmgeodpjmfaaaGreatDoor
