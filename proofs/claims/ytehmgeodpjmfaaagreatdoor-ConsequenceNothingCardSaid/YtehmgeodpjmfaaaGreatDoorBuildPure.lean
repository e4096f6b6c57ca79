/- law 50: what build makes, in plain words. -/
import Derived.Test.YtehmgeodpjmfaaaGreatDoorItem
namespace Go.Proofs.YtehmgeodpjmfaaaGreatDoor
open Go.RowKit

def nameOf (x : ItemS) : NameS := outNm (whoN x.who) ((x.num % 4 : Nat) : Int) ((x.tick % 8 : Nat) : Int)
def valOf (x : ItemS) : ByteArray := ⟨(outL (itemOut x)).toArray⟩
def stB (xs : List ItemS) : BT := xs.foldl (fun t x => t.with_ (nameOf x) (valOf x)) .nil
def entI (x : ItemS) : EntS := ⟨whoN x.who, ((x.num % 4 : Nat) : Int), ((x.tick % 8 : Nat) : Int), itemOut x⟩
def leftOf (i : Nat) (x : ItemS) : LeftS := ⟨entI x, 9 + (i : Int), ((i / 5 : Nat) : Int)⟩
def ledB : Nat → List ItemS → List LeftS
  | _, [] => []
  | i, x :: l => leftOf i x :: ledB (i + 1) l
theorem ledB_len : ∀ (l : List ItemS) (i : Nat), (ledB i l).length = l.length
  | [], _ => rfl
  | _ :: l, i => by rw [ledB, List.length_cons, ledB_len l (i + 1), List.length_cons]
theorem ledB_snoc : ∀ (l : List ItemS) (i : Nat) (x : ItemS), ledB i (l ++ [x]) = ledB i l ++ [leftOf (i + l.length) x]
  | [], i, x => by simp [ledB]
  | y :: l, i, x => by rw [List.cons_append, ledB, ledB_snoc l (i + 1) x, ledB, List.cons_append, List.length_cons, show i + 1 + l.length = i + (l.length + 1) by omega]
theorem ledB_get : ∀ (l : List ItemS) (i j : Nat) (h : j < l.length), (ledB i l)[j]? = some (leftOf (i + j) l[j])
  | x :: l, i, 0, _ => by simp [ledB]
  | x :: l, i, j + 1, h => by rw [ledB, List.getElem?_cons_succ, ledB_get l (i + 1) j (by simpa using h), show i + 1 + j = i + (j + 1) by omega]; simp
theorem whoN_size (k : Nat) : (whoN k).size ≤ 3 := by unfold whoN; split <;> (try split) <;> decide
theorem whoN_valid (k : Nat) : validS (whoN k).data.toList = true := by unfold whoN; split <;> (try split) <;> decide
theorem cut20_size (s : ByteArray) : (cut20 s).size ≤ 20 := by unfold cut20; rw [ByteArray.size_extract]; omega
theorem itemOut_chk (x : ItemS) : (itemOut x).chk = 0 := by
  have h := cut20_size x.text
  have h4 : x.chan % 4 < 4 := by omega
  unfold OutS.chk itemOut
  simp only
  rw [if_neg (by omega), if_neg (by decide), if_neg (by decide), if_neg (by decide), if_neg (by omega), if_neg (by decide)]
theorem valOf_size (x : ItemS) : (valOf x).size ≤ 65536 := by
  have := outL_len _ (itemOut_chk x)
  show (outL (itemOut x)).toArray.size ≤ 65536
  simp; omega
theorem inR_true {n m : Int} (h : 0 ≤ n) (h2 : n ≤ m) : inR n m = true := by unfold inR; rw [decide_eq_true h, decide_eq_true h2]; rfl
theorem left_chk (l : List ItemS) (x : ItemS) (h : l.length < 20) : leftChk (ledB 0 l) (leftOf l.length x) = 0 := by
  unfold leftChk
  have h1 : x.num % 4 < 4 := by omega
  have h2 : x.tick % 8 < 8 := by omega
  rw [if_neg (by show ¬ validS (whoN x.who).data.toList = false; rw [whoN_valid]; simp), if_neg, if_neg (by simp [leftOf, entI, itemOut_chk]), if_neg, if_neg]
  · rw [ledB_len]; omega
  · unfold ledOld
    rcases Nat.eq_zero_or_pos l.length with h0 | h0
    · have : l = [] := List.length_eq_zero_iff.1 h0
      subst this; simp [ledB]
    · have hl := List.getLast?_eq_getElem? (l := ledB 0 l)
      rw [ledB_len, ledB_get l 0 (l.length - 1) (by omega)] at hl
      rw [hl]
      simp [leftOf]
      omega
  · have a1 : inR (leftOf l.length x).ent.num 1048576 = true := inR_true (n := ((x.num % 4 : Nat) : Int)) (by omega) (by omega)
    have a2 : inR (leftOf l.length x).ent.tick 1073741824 = true := inR_true (n := ((x.tick % 8 : Nat) : Int)) (by omega) (by omega)
    have a3 : inR (leftOf l.length x).at_ 1073741824 = true := inR_true (n := 9 + (l.length : Int)) (by omega) (by omega)
    have a4 : inR (leftOf l.length x).rnd 1048576 = true := inR_true (n := ((l.length / 5 : Nat) : Int)) (by omega) (by omega)
    simp [a1, a2, a3, a4]
theorem with_mem : ∀ (t : BT) (n : NameS) (v : ByteArray) (y : NameS × ByteArray), y ∈ (t.with_ n v).toL → y = (n, v) ∨ y ∈ t.toL
  | .nil, n, v, y, h => by simp [BT.with_, BT.toL] at h; exact .inl h
  | .node l m u r, n, v, y, h => by
    rw [BT.with_] at h
    split at h
    · rw [BT.bal_toL, List.mem_append, List.mem_cons] at h
      rcases h with h | h | h
      · rcases with_mem l n v y h with h | h
        · exact .inl h
        · exact .inr (by simp [BT.toL, h])
      · exact .inr (by simp [BT.toL, h])
      · exact .inr (by simp [BT.toL, h])
    · split at h
      · rw [BT.bal_toL, List.mem_append, List.mem_cons] at h
        rcases h with h | h | h
        · exact .inr (by simp [BT.toL, h])
        · exact .inr (by simp [BT.toL, h])
        · rcases with_mem r n v y h with h | h
          · exact .inl h
          · exact .inr (by simp [BT.toL, h])
      · simp only [BT.toL, List.mem_append, List.mem_cons] at h
        rcases h with h | h | h
        · exact .inr (by simp [BT.toL, h])
        · exact .inl h
        · exact .inr (by simp [BT.toL, h])
theorem snoc_ind {α : Type} {P : List α → Prop} (h0 : P []) (h1 : ∀ l x, P l → P (l ++ [x])) (l : List α) : P l := by
  rw [← List.reverse_reverse l]
  induction l.reverse with
  | nil => exact h0
  | cons x m ih => rw [List.reverse_cons]; exact h1 _ _ ih
theorem stB_snoc (xs : List ItemS) (x : ItemS) : stB (xs ++ [x]) = (stB xs).with_ (nameOf x) (valOf x) := by unfold stB; rw [List.foldl_append]; rfl
theorem stB_mem (xs : List ItemS) : ∀ y ∈ (stB xs).toL, ∃ x ∈ xs, y = (nameOf x, valOf x) := by
  refine snoc_ind (P := fun xs => ∀ y ∈ (stB xs).toL, ∃ x ∈ xs, y = (nameOf x, valOf x)) ?_ ?_ xs
  · intro y h; simp [stB, BT.toL] at h
  · intro xs x ih y h
    rw [stB_snoc] at h
    rcases with_mem _ _ _ _ h with h | h
    · exact ⟨x, by simp, h⟩
    · obtain ⟨z, hz, e⟩ := ih y h
      exact ⟨z, by simp [hz], e⟩
theorem nameOf_ok (x : ItemS) : NmOk (nameOf x) := ⟨by have := whoN_size x.who; show (whoN x.who).size ≤ _; omega, whoN_valid _⟩
theorem stB_ok (xs : List ItemS) : AllOk (stB xs) := fun y hy => by
  obtain ⟨x, _, rfl⟩ := stB_mem xs y hy
  exact nameOf_ok x
theorem stB_val (xs : List ItemS) : ValOk (stB xs) := fun y hy => by
  obtain ⟨x, _, rfl⟩ := stB_mem xs y hy
  exact valOf_size x
theorem stB_size (xs : List ItemS) : (stB xs).sz ≤ xs.length ∧ (stB xs).by_ ≤ 65536 * xs.length := by
  refine snoc_ind (P := fun xs => (stB xs).sz ≤ xs.length ∧ (stB xs).by_ ≤ 65536 * xs.length) ?_ ?_ xs
  · simp [stB, BT.sz, BT.by_]
  · intro xs x ih
    rw [stB_snoc, List.length_append]
    obtain ⟨h1, h2⟩ := BT.with_sz (stB xs) (nameOf x) (valOf x)
    have := valOf_size x
    simp only [List.length_cons, List.length_nil]
    omega
end Go.Proofs.YtehmgeodpjmfaaaGreatDoor
