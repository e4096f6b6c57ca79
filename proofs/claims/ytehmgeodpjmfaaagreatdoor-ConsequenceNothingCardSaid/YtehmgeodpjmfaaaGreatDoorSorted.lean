/- law 50: the names of a state that build makes are pairwise different. (Under way: builds as far as it goes.) -/
import Derived.Test.YtehmgeodpjmfaaaGreatDoorBuildPure
import Derived.Test.YtehmgeodpjmfaaaGreatDoorAll
namespace Go.Proofs.YtehmgeodpjmfaaaGreatDoor
open Go.RowKit

def rkO (o : ByteArray) : Int := if o = nm1 then 0 else if o = nm12 then 1 else 2
def rkN (n : NameS) : Int := rkO n.owner * 32 + n.number * 8 + n.index
theorem bal_toL (l : BT) (n : NameS) (v : ByteArray) (r : BT) : (BT.bal l n v r).toL = l.toL ++ (n, v) :: r.toL := by
  unfold BT.bal
  repeat' split
  all_goals simp [BT.toL]
def insL (n : NameS) (v : ByteArray) : List (NameS × ByteArray) → List (NameS × ByteArray)
  | [] => [(n, v)]
  | p :: l => if rkN n < rkN p.1 then (n, v) :: p :: l else if rkN p.1 < rkN n then p :: insL n v l else (n, v) :: l
theorem own_cmp (i j : Nat) : (cmpN (whoN i) (whoN j) = 0 ↔ rkO (whoN i) = rkO (whoN j)) ∧ (cmpN (whoN i) (whoN j) < 0 ↔ rkO (whoN i) < rkO (whoN j)) := by
  have h : ∀ a ∈ [nm1, nm12, nm3], ∀ b ∈ [nm1, nm12, nm3], (cmpN a b = 0 ↔ rkO a = rkO b) ∧ (cmpN a b < 0 ↔ rkO a < rkO b) := by decide +kernel
  have hw : ∀ k, whoN k ∈ [nm1, nm12, nm3] := fun k => by
    unfold whoN
    split
    · simp
    · split <;> simp
  exact h _ (hw i) _ (hw j)
theorem cmp_name (x y : ItemS) : (cmpNm (nameOf x) (nameOf y) < 0 ↔ rkN (nameOf x) < rkN (nameOf y)) ∧ (0 < cmpNm (nameOf x) (nameOf y) ↔ rkN (nameOf y) < rkN (nameOf x)) := by
  obtain ⟨h0, h1⟩ := own_cmp x.who y.who
  have hc : Lib.compareBytes (⟨#[]⟩ : ByteArray).data.toList (⟨#[]⟩ : ByteArray).data.toList = 0 := by decide
  have hr : ∀ k, rkO (whoN k) = 0 ∨ rkO (whoN k) = 1 ∨ rkO (whoN k) = 2 := fun k => by
    unfold rkO
    split
    · exact .inl rfl
    · split
      · exact .inr (.inl rfl)
      · exact .inr (.inr rfl)
  have rx := hr x.who
  have ry := hr y.who
  simp only [cmpNm, nameOf, outNm, rkN, hc]
  generalize cmpN (whoN x.who) (whoN y.who) = c at *
  generalize rkO (whoN x.who) = a at *
  generalize rkO (whoN y.who) = b at *
  simp only [orI, cmpI]
  repeat' split
  all_goals omega
theorem insL_lt (n : NameS) (v : ByteArray) (m : NameS × ByteArray) (r : List (NameS × ByteArray)) (h : rkN n < rkN m.1) : ∀ l : List (NameS × ByteArray), insL n v (l ++ m :: r) = insL n v l ++ m :: r
  | [] => by simp [insL, h]
  | p :: l => by
    rw [List.cons_append, insL, insL]
    split
    · simp
    · split
      · rw [insL_lt n v m r h l, List.cons_append]
      · simp
theorem insL_ge (n : NameS) (v : ByteArray) (m : NameS × ByteArray) (r : List (NameS × ByteArray)) : ∀ l : List (NameS × ByteArray), (∀ p ∈ l, rkN p.1 < rkN n) → insL n v (l ++ m :: r) = l ++ insL n v (m :: r)
  | [], _ => rfl
  | p :: l, h => by
    have hp := h p (by simp)
    rw [List.cons_append, insL, if_neg (by omega), if_pos hp, insL_ge n v m r l (fun q hq => h q (by simp [hq])), List.cons_append]
def AllN (l : List (NameS × ByteArray)) : Prop := ∀ p ∈ l, ∃ x : ItemS, p.1 = nameOf x
def SortedN (l : List (NameS × ByteArray)) : Prop := l.Pairwise fun p q => rkN p.1 < rkN q.1
theorem with_toL (x : ItemS) (v : ByteArray) : ∀ t : BT, AllN t.toL → SortedN t.toL → (t.with_ (nameOf x) v).toL = insL (nameOf x) v t.toL
  | .nil, _, _ => rfl
  | .node l m u r, ha, hs => by
    have hal : AllN l.toL := fun p hp => ha p (by simp [BT.toL, hp])
    have har : AllN r.toL := fun p hp => ha p (by simp [BT.toL, hp])
    obtain ⟨y, hy⟩ := ha (m, u) (by simp [BT.toL])
    simp only at hy
    have hs' : (l.toL ++ (m, u) :: r.toL).Pairwise fun p q => rkN p.1 < rkN q.1 := hs
    rw [List.pairwise_append, List.pairwise_cons] at hs'
    obtain ⟨hsl, ⟨hmr, hsr⟩, hlm⟩ := hs'
    have hl : ∀ p ∈ l.toL, rkN p.1 < rkN m := fun p hp => hlm p hp (m, u) (by simp)
    obtain ⟨c1, c2⟩ := cmp_name x y
    rw [← hy] at c1 c2
    rw [BT.with_]
    by_cases h1 : cmpNm (nameOf x) m < 0
    · rw [if_pos h1, bal_toL, with_toL x v l hal hsl]
      exact (insL_lt _ _ (m, u) _ (c1.1 h1) _).symm
    · by_cases h2 : 0 < cmpNm (nameOf x) m
      · have h3 := c2.1 h2
        rw [if_neg h1, if_pos h2, bal_toL, with_toL x v r har hsr]
        show _ = insL (nameOf x) v (l.toL ++ (m, u) :: r.toL)
        rw [insL_ge _ _ _ _ _ (fun p hp => Int.lt_trans (hl p hp) h3), insL, if_neg (by simp only; omega), if_pos h3]
      · have h3 : rkN (nameOf x) = rkN m := by
          have a1 : ¬ rkN (nameOf x) < rkN m := fun h => h1 (c1.2 h)
          have a2 : ¬ rkN m < rkN (nameOf x) := fun h => h2 (c2.2 h)
          omega
        rw [if_neg h1, if_neg h2]
        show l.toL ++ (nameOf x, v) :: r.toL = insL (nameOf x) v (l.toL ++ (m, u) :: r.toL)
        rw [insL_ge _ _ _ _ _ (fun p hp => by rw [h3]; exact hl p hp), insL, if_neg (by simp only; omega), if_neg (by simp only; omega)]
theorem insL_mem (n : NameS) (v : ByteArray) (q : NameS × ByteArray) : ∀ l, q ∈ insL n v l → q = (n, v) ∨ q ∈ l
  | [], h => by simpa [insL] using h
  | p :: l, h => by
    rw [insL] at h
    split at h
    · simpa using h
    · split at h
      · rcases List.mem_cons.1 h with h | h
        · exact .inr (by simp [h])
        · rcases insL_mem n v q l h with h | h
          · exact .inl h
          · exact .inr (by simp [h])
      · rcases List.mem_cons.1 h with h | h
        · exact .inl h
        · exact .inr (by simp [h])
theorem insL_sorted (n : NameS) (v : ByteArray) : ∀ l, SortedN l → SortedN (insL n v l)
  | [], _ => by simp [insL, SortedN]
  | p :: l, h => by
    obtain ⟨h1, h2⟩ := List.pairwise_cons.1 h
    rw [insL]
    split
    · rename_i hn
      exact List.pairwise_cons.2 ⟨fun q hq => by
        rcases List.mem_cons.1 hq with rfl | hq
        · exact hn
        · exact Int.lt_trans hn (h1 q hq), h⟩
    · split
      · rename_i _ hp
        exact List.pairwise_cons.2 ⟨fun q hq => by
          rcases insL_mem n v q l hq with rfl | hq
          · exact hp
          · exact h1 q hq, insL_sorted n v l h2⟩
      · exact List.pairwise_cons.2 ⟨fun q hq => by
          have := h1 q hq
          simp only
          omega, h2⟩
theorem stB_fold : ∀ (xs : List ItemS) (t : BT), AllN t.toL → SortedN t.toL → AllN (xs.foldl (fun t x => t.with_ (nameOf x) (valOf x)) t).toL ∧ SortedN (xs.foldl (fun t x => t.with_ (nameOf x) (valOf x)) t).toL
  | [], _, ha, hs => ⟨ha, hs⟩
  | x :: xs, t, ha, hs => by
    rw [List.foldl_cons]
    refine stB_fold xs _ ?_ ?_
    · rw [with_toL x _ t ha hs]
      intro p hp
      rcases insL_mem _ _ p _ hp with rfl | hp
      · exact ⟨x, rfl⟩
      · exact ha p hp
    · rw [with_toL x _ t ha hs]
      exact insL_sorted _ _ _ hs
theorem stB_sorted (xs : List ItemS) : AllN (stB xs).toL ∧ SortedN (stB xs).toL := stB_fold xs .nil (fun p hp => by cases hp) List.Pairwise.nil
theorem entOf_rk {t : BT} {n m : NameS} {e : EntS} (h : entOf t n = some e) (k : entOf t m = some e) : rkN n = rkN m := by
  unfold entOf at h k
  split at h
  · split at k
    · cases h
      simp only [Option.some.injEq, EntS.mk.injEq] at k
      obtain ⟨k1, k2, k3, _⟩ := k
      unfold rkN
      rw [k1, k2, k3]
    · cases k
  · cases h
theorem allL_nodup (xs : List ItemS) : (allL (stB xs)).Nodup := by
  have h := (stB_sorted xs).2
  unfold allL List.Nodup
  rw [List.pairwise_filterMap]
  have h2 : ((stB xs).toL.map (·.1)).Pairwise fun a b => rkN a < rkN b := List.pairwise_map.2 h
  refine (h2.filter _).imp ?_
  intro a b hab e he e' he' hee
  subst hee
  have := entOf_rk he he'
  omega
end Go.Proofs.YtehmgeodpjmfaaaGreatDoor
