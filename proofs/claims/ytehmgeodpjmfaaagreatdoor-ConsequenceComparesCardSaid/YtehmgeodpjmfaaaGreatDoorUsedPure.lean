/- law 50: the reference's marks by index say what Compare's map says: no program. -/
import Derived.Test.YtehmgeodpjmfaaaGreatDoorPlacesPure
namespace Go.Proofs.YtehmgeodpjmfaaaGreatDoor
open Go.RowKit

/-- After i rounds of the inner loop for e: the marks, beside those that were met before. -/
structure Used (all M : List EntS) (i : Nat) (e : EntS) (S : List Bool) : Prop where
  len : S.length = all.length
  val : ∀ k (h : k < all.length), S[k]? = some (decide (all[k] ∈ M) || (decide (k < i) && decide (all[k] = e)))
/-- The first of the slot so far. -/
def FirstIs (all : List EntS) (i : Nat) (s : SlotS) (f : Int) : Prop :=
  (f = -1 ∧ ∀ k (h : k < all.length), k < i → slotOf all[k] ≠ s) ∨ ∃ (j : Nat) (h : j < all.length), j < i ∧ f = (j : Int) ∧ slotOf all[j] = s ∧ ∀ k (hk : k < all.length), k < j → slotOf all[k] ≠ s
def consI (all : List EntS) (i : Nat) (p : Nat) (e : EntS) : ConsS :=
  if e ∈ all.take i then ⟨1, e.own, e.num, p, e.out, e.tick, e.out, e.tick⟩ else ⟨2, e.own, e.num, p, e.out, e.tick, outZ, 0⟩
theorem Used.turn {all M : List EntS} {e : EntS} {S : List Bool} (h : ∀ k (h : k < all.length), S[k]? = some (decide (all[k] ∈ M))) (hl : S.length = all.length) : Used all M 0 e S := ⟨hl, fun k hk => by rw [h k hk]; simp⟩
theorem Used.other {all M : List EntS} {i : Nat} {e : EntS} {S : List Bool} (h : Used all M i e S) (hi : i < all.length) (hne : all[i] ≠ e) : Used all M (i + 1) e S :=
  ⟨h.len, fun k hk => by
    rw [h.val k hk]
    congr 2
    by_cases e' : k = i
    · subst e'; simp [hne]
    · rw [show decide (k < i + 1) = decide (k < i) by rw [decide_eq_decide]; omega]⟩
theorem Used.hit {all M : List EntS} {i : Nat} {e : EntS} {S : List Bool} (h : Used all M i e S) (hi : i < all.length) (he : all[i] = e) : Used all M (i + 1) e (S.set i true) :=
  ⟨by simp [h.len], fun k hk => by
    by_cases e' : i = k
    · subst e'
      have hl := h.len
      rw [List.getElem?_set_self (by omega)]
      simp [he]
    · rw [List.getElem?_set_ne e', h.val k hk, show decide (k < i + 1) = decide (k < i) by rw [decide_eq_decide]; omega]⟩
theorem FirstIs.start (all : List EntS) (s : SlotS) : FirstIs all 0 s (-1) := .inl ⟨rfl, fun k _ h => by omega⟩
theorem FirstIs.other {all : List EntS} {i : Nat} {s : SlotS} {f : Int} (h : FirstIs all i s f) (hi : i < all.length) (hne : slotOf all[i] ≠ s) : FirstIs all (i + 1) s f := by
  rcases h with ⟨h1, h2⟩ | ⟨j, hj, h1, h2, h3, h4⟩
  · refine .inl ⟨h1, fun k hk hki => ?_⟩
    by_cases e : k = i
    · subst e; exact hne
    · exact h2 k hk (by omega)
  · exact .inr ⟨j, hj, by omega, h2, h3, h4⟩
theorem FirstIs.keep {all : List EntS} {i : Nat} {s : SlotS} {f : Int} (h : FirstIs all i s f) (hf : 0 ≤ f) : FirstIs all (i + 1) s f := by
  rcases h with ⟨h1, h2⟩ | ⟨j, hj, h1, h2, h3, h4⟩
  · omega
  · exact .inr ⟨j, hj, by omega, h2, h3, h4⟩
theorem FirstIs.found {all : List EntS} {i : Nat} {s : SlotS} {f : Int} (h : FirstIs all i s f) (hf : f < 0) (hi : i < all.length) (he : slotOf all[i] = s) : FirstIs all (i + 1) s (i : Int) := by
  rcases h with ⟨h1, h2⟩ | ⟨j, hj, h1, h2, h3, h4⟩
  · exact .inr ⟨i, hi, by omega, rfl, he, h2⟩
  · omega
theorem FirstIs.range {all : List EntS} {i : Nat} {s : SlotS} {f : Int} (h : FirstIs all i s f) : f = -1 ∨ ∃ j : Nat, f = (j : Int) ∧ j < all.length := by
  rcases h with ⟨h1, _⟩ | ⟨j, hj, _, h2, _⟩
  · exact .inl h1
  · exact .inr ⟨j, h2, hj⟩
theorem FirstIs.none {all : List EntS} {s : SlotS} (h : FirstIs all all.length s (-1)) : firstL all s = none := by
  rcases h with ⟨_, h2⟩ | ⟨j, hj, _, h2, _⟩
  · unfold firstL
    rw [List.find?_eq_none]
    intro x hx
    obtain ⟨k, hk, rfl⟩ := List.mem_iff_getElem.1 hx
    simpa using h2 k hk hk
  · omega
theorem FirstIs.some {all : List EntS} {s : SlotS} {j : Nat} (hj : j < all.length) (h : FirstIs all all.length s (j : Int)) : firstL all s = some all[j] := by
  rcases h with ⟨h1, _⟩ | ⟨j', hj', _, h2, h3, h4⟩
  · omega
  · obtain rfl : j = j' := by omega
    unfold firstL
    rw [List.find?_eq_some_iff_getElem]
    exact ⟨by simpa using h3, j, hj, rfl, fun k hk => by simpa using h4 k (by omega) hk⟩
theorem consI_start (all : List EntS) (p : Nat) (e : EntS) : consI all 0 p e = ⟨2, e.own, e.num, p, e.out, e.tick, outZ, 0⟩ := by unfold consI; simp
theorem consI_hit {all : List EntS} {i p : Nat} {e : EntS} (hi : i < all.length) (he : all[i] = e) : consI all (i + 1) p e = ⟨1, e.own, e.num, p, e.out, e.tick, e.out, e.tick⟩ := by
  unfold consI
  rw [if_pos]
  rw [take_snoc all i hi, he]; simp
theorem consI_other {all : List EntS} {i p : Nat} {e : EntS} (hi : i < all.length) (he : all[i] ≠ e) : consI all (i + 1) p e = consI all i p e := by
  unfold consI
  rw [take_snoc all i hi]
  have : (e ∈ all.take i ++ [all[i]]) ↔ e ∈ all.take i := by
    rw [List.mem_append, List.mem_singleton]
    exact ⟨fun h => h.elim id (fun h => absurd h.symm he), .inl⟩
  simp only [this]
theorem consI_full (all : List EntS) (p : Nat) (e : EntS) : consI all all.length p e = if e ∈ all then ⟨1, e.own, e.num, p, e.out, e.tick, e.out, e.tick⟩ else ⟨2, e.own, e.num, p, e.out, e.tick, outZ, 0⟩ := by
  unfold consI; rw [List.take_length]
theorem consI_kind (all : List EntS) (i p : Nat) (e : EntS) : (consI all i p e).kind = 1 ∨ (consI all i p e).kind = 2 := by unfold consI; split <;> simp
/-- The marks behind a round of the outer loop: they say what is met. -/
def Marks (all M : List EntS) (S : List Bool) : Prop := S.length = all.length ∧ ∀ k (h : k < all.length), S[k]? = some (decide (all[k] ∈ M))
theorem Marks.used {all M : List EntS} {S : List Bool} (h : Marks all M S) (e : EntS) : Used all M 0 e S := Used.turn h.2 h.1
theorem Marks.start (all : List EntS) : Marks all [] (List.replicate all.length false) := ⟨by simp, fun k h => by simp [h]⟩
/-- It is there: nothing more is marked. -/
theorem Used.there {all M : List EntS} {e : EntS} {S : List Bool} (h : Used all M all.length e S) (he : e ∈ all) : Marks all (M ++ (metOf all e).toList) S :=
  ⟨h.len, fun k hk => by
    rw [h.val k hk]
    unfold metOf
    rw [if_pos he]
    congr 1
    rw [Bool.eq_iff_iff]
    simp [hk]⟩
theorem Used.nowhere {all M : List EntS} {e : EntS} {S : List Bool} (h : Used all M all.length e S) (he : e ∉ all) (hf : firstL all (slotOf e) = none) : Marks all (M ++ (metOf all e).toList) S :=
  ⟨h.len, fun k hk => by
    rw [h.val k hk]
    unfold metOf
    rw [if_neg he, hf]
    have : all[k] ≠ e := fun h => he (h ▸ List.getElem_mem hk)
    simp [this]⟩
theorem Used.first {all M : List EntS} {e : EntS} {S : List Bool} (hn : all.Nodup) (h : Used all M all.length e S) (he : e ∉ all) {j : Nat} (hj : j < all.length) (hf : firstL all (slotOf e) = some all[j]) : Marks all (M ++ (metOf all e).toList) (S.set j true) :=
  ⟨by simp [h.len], fun k hk => by
    have hl := h.len
    unfold metOf
    rw [if_neg he, hf]
    by_cases e' : j = k
    · subst e'
      rw [List.getElem?_set_self (by omega)]
      simp
    · rw [List.getElem?_set_ne e', h.val k hk]
      have h1 : all[k] ≠ e := fun h => he (h ▸ List.getElem_mem hk)
      have hp := List.pairwise_iff_getElem.1 hn
      have h2 : all[k] ≠ all[j] := by
        rcases Nat.lt_or_gt_of_ne e' with h | h
        · exact (hp j k hj hk h).symm
        · exact hp k j hk hj h
      simp [h1, h2]⟩
theorem consOf_there {all : List EntS} {p : Nat} {e : EntS} (he : e ∈ all) : consI all all.length p e = consOf all p e := by rw [consI_full, if_pos he]; unfold consOf; rw [if_pos he]
theorem consOf_nowhere {all : List EntS} {p : Nat} {e : EntS} (he : e ∉ all) (hf : firstL all (slotOf e) = none) : consI all all.length p e = consOf all p e := by rw [consI_full, if_neg he]; unfold consOf; rw [if_neg he, hf]
theorem consOf_first {all : List EntS} {p : Nat} {e y : EntS} (he : e ∉ all) (hf : firstL all (slotOf e) = some y) : consOf all p e = ⟨3, e.own, e.num, p, e.out, e.tick, y.out, y.tick⟩ := by unfold consOf; rw [if_neg he, hf]
theorem there_of_kind {all : List EntS} {p : Nat} {e : EntS} : (consI all all.length p e).kind = 1 ↔ e ∈ all := by rw [consI_full]; by_cases h : e ∈ all <;> simp [h]
theorem Marks.filter {all M : List EntS} {S : List Bool} (h : Marks all M S) (k : Nat) (hk : k < all.length) : S[k]? = some (!(decide (all[k] ∉ M))) := by rw [h.2 k hk]; simp
theorem consI_set (all : List EntS) (i p : Nat) (e : EntS) : { consI all i p e with kind := 1, new := e.out, newAt := e.tick } = (⟨1, e.own, e.num, p, e.out, e.tick, e.out, e.tick⟩ : ConsS) := by unfold consI; split <;> rfl
end Go.Proofs.YtehmgeodpjmfaaaGreatDoor
