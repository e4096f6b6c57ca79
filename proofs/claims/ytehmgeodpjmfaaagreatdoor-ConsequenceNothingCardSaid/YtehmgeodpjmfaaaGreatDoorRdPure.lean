/- codec: what a Reader reads, in plain words: no program. -/
import Derived.Test.YtehmgeodpjmfaaaGreatDoorNat
namespace Go.Proofs.YtehmgeodpjmfaaaGreatDoor
open Go.RowKit

/-- What 'groups' answers: the number, its length, the error. -/
def grpGo (most : Nat) : Nat → Nat → List UInt8 → Nat × Nat × Int
  | i, _, [] => if most ≤ i then (0, 0, 3) else (0, 0, 28)
  | i, u, c :: r => if i = most then (0, 0, 3) else
    if c.toNat < 128 then (if c.toNat = 0 ∧ 0 < i then (0, 0, 3) else (u + (c.toNat % 128) * 128 ^ i, i + 1, 0)) else grpGo most (i + 1) (u + (c.toNat % 128) * 128 ^ i) r
def prsL (b : List UInt8) : Nat × Nat × Int := grpGo 9 0 0 b

theorem natL_ne (n : Nat) : natL n ≠ [] := by rw [natL]; split <;> simp
theorem ofNat_toNat {x : Nat} (h : x < 256) : (UInt8.ofNat x).toNat = x := by rw [UInt8.toNat_ofNat', Nat.mod_eq_of_lt (by omega)]
theorem grp_nat (most : Nat) : ∀ (k n i u : Nat) (r : List UInt8), (natL n).length = k → i + k ≤ most → (n ≠ 0 ∨ i = 0) → grpGo most i u (natL n ++ r) = (u + n * 128 ^ i, i + k, 0) := by
  intro k
  induction k with
  | zero => intro n i u r h; exact absurd (List.length_eq_zero_iff.1 h) (natL_ne n)
  | succ k ih =>
    intro n i u r h hm hz
    by_cases hn : n < 128
    · rw [natL_small hn] at h ⊢
      simp at h
      subst h
      rw [List.singleton_append, grpGo, if_neg (by omega), ofNat_toNat (by omega), if_pos hn, if_neg (by omega), Nat.mod_eq_of_lt hn]
    · rw [natL_big (by omega)] at h ⊢
      simp at h
      rw [List.cons_append, grpGo, if_neg (by omega), ofNat_toNat (by omega), if_neg (by omega), ih (n / 128) (i + 1) _ r h (by omega) (.inl (by omega))]
      have e : u + (n % 128 + 128) % 128 * 128 ^ i + n / 128 * 128 ^ (i + 1) = u + n * 128 ^ i := by
        have h1 : (n % 128 + 128) % 128 = n % 128 := by omega
        rw [h1, Nat.pow_succ, Nat.add_assoc, Nat.mul_comm (128 ^ i) 128, ← Nat.mul_assoc, ← Nat.add_mul]
        congr 2
        omega
      rw [e]
      congr 1
      congr 1
      omega
theorem grp_inv (most : Nat) : ∀ (b : List UInt8) (i u v k : Nat), grpGo most i u b = (v, k, 0) → ∃ n r, b = natL n ++ r ∧ v = u + n * 128 ^ i ∧ k = i + (natL n).length ∧ (0 < i → n ≠ 0) ∧ (i ≤ most → k ≤ most) := by
  intro b
  induction b with
  | nil => intro i u v k h; rw [grpGo] at h; split at h <;> simp at h
  | cons c b ih =>
    intro i u v k h
    rw [grpGo] at h
    split at h
    · simp at h
    · rename_i hi
      split at h
      · rename_i hc
        split at h
        · simp at h
        · rename_i hz
          simp only [Prod.mk.injEq, and_true] at h
          obtain ⟨h1, h2⟩ := h
          refine ⟨c.toNat, b, ?_, ?_, ?_, ?_, ?_⟩
          · rw [natL_small hc, List.singleton_append]; simp
          · rw [← h1, Nat.mod_eq_of_lt hc]
          · rw [natL_small hc, ← h2]; rfl
          · intro h0 h3; exact hz ⟨h3, h0⟩
          · intro h3; omega
      · rename_i hc
        obtain ⟨n, r, hb, hv, hk, hn, hm⟩ := ih _ _ _ _ h
        have hlt : c.toNat < 256 := c.toNat_lt
        have hn0 := hn (by omega)
        have hd : (c.toNat - 128 + 128 * n) / 128 = n := by omega
        refine ⟨c.toNat - 128 + 128 * n, r, ?_, ?_, ?_, ?_, ?_⟩
        · rw [natL_big (n := c.toNat - 128 + 128 * n) (by omega), hd, hb, List.cons_append]
          congr 1
          have : (c.toNat - 128 + 128 * n) % 128 + 128 = c.toNat := by omega
          rw [this]; simp
        · rw [hv]
          have h1 : c.toNat % 128 = c.toNat - 128 := by omega
          rw [h1, Nat.pow_succ, Nat.mul_comm (128 ^ i) 128, ← Nat.mul_assoc, Nat.add_assoc, ← Nat.add_mul, Nat.mul_comm n 128]
        · rw [hk, natL_big (n := c.toNat - 128 + 128 * n) (by omega), hd]; simp; omega
        · intro _; omega
        · intro h3; exact hm (by omega)

theorem parse_nat (n : Nat) (r : List UInt8) (hn : n < 9223372036854775808) : prsL (natL n ++ r) = (n, (natL n).length, 0) := by
  have h := grp_nat 9 _ n 0 0 r rfl (by have := natL_len 9 n (by omega) (by omega); omega) (.inr rfl)
  simpa [prsL] using h
theorem parse_inv {b : List UInt8} {n k : Nat} (h : prsL b = (n, k, 0)) : k = (natL n).length ∧ b = natL n ++ b.drop k ∧ k ≤ 9 ∧ k ≤ b.length := by
  obtain ⟨m, r, hb, hv, hk, _, hm⟩ := grp_inv 9 b 0 0 n k h
  simp at hv hk
  subst hv
  refine ⟨hk, ?_, hm (by omega), ?_⟩
  · rw [hb, hk, List.drop_left]
  · rw [hb, hk]; simp
theorem parse_lt {b : List UInt8} {n k : Nat} (h : prsL b = (n, k, 0)) : n < 9223372036854775808 := by
  obtain ⟨hk, _, h9, _⟩ := parse_inv h
  have : ∀ (j m : Nat), (natL m).length ≤ j → m < 128 ^ j := by
    intro j
    induction j with
    | zero => intro m hm; exact absurd (List.length_eq_zero_iff.1 (Nat.le_zero.1 hm)) (natL_ne m)
    | succ j ih =>
      intro m hm
      by_cases h1 : m < 128
      · exact Nat.lt_of_lt_of_le h1 (by rw [Nat.pow_succ]; exact Nat.le_mul_of_pos_left _ (Nat.pow_pos (by omega)))
      · rw [natL_big (by omega)] at hm
        simp at hm
        have := ih _ hm
        rw [Nat.pow_succ]
        omega
  have := this 9 n (by omega)
  simpa using this

theorem grp_zero (most : Nat) : ∀ (b : List UInt8) (i u : Nat), (grpGo most i u b).2.2 ≠ 0 → (grpGo most i u b).1 = 0 ∧ (grpGo most i u b).2.1 = 0 := by
  intro b
  induction b with
  | nil => intro i u _; rw [grpGo]; split <;> simp
  | cons c b ih =>
    intro i u h
    rw [grpGo] at h ⊢
    split
    · simp
    · split
      · split
        · simp
        · rename_i h1 h2 h3; rw [if_neg h1, if_pos h2, if_neg h3] at h; simp at h
      · rename_i h1 h2; rw [if_neg h1, if_neg h2] at h; exact ih _ _ h
theorem parse_bound (b : List UInt8) : (prsL b).1 < 9223372036854775808 ∧ (prsL b).2.1 ≤ b.length ∧ (prsL b).2.1 ≤ 9 := by
  rcases hp : prsL b with ⟨n, k, e⟩
  by_cases he : e = 0
  · subst he
    exact ⟨parse_lt hp, (parse_inv hp).2.2.2, (parse_inv hp).2.2.1⟩
  · have := grp_zero 9 b 0 0 (by show (prsL b).2.2 ≠ 0; rw [hp]; exact he)
    have h1 : (prsL b).1 = 0 := this.1
    have h2 : (prsL b).2.1 = 0 := this.2
    rw [hp] at h1 h2
    simp only at h1 h2
    subst h1 h2
    exact ⟨by simp, by simp, by simp⟩

/-- A Reader's state. -/
structure RS where
  b : List UInt8
  at_ : Nat
  f : Int
def RS.rest (r : RS) : List UInt8 := r.b.drop r.at_
def RS.num (r : RS) (most : Int) : Int × RS :=
  if r.f ≠ 0 then (0, r)
  else if (prsL r.rest).2.2 ≠ 0 then (0, { r with f := (prsL r.rest).2.2 })
  else if most < ((prsL r.rest).1 : Int) then (0, { r with f := 2 })
  else ((prsL r.rest).1, { r with at_ := r.at_ + (prsL r.rest).2.1 })
def RS.text (r : RS) (most : Int) : List UInt8 × RS :=
  if r.f ≠ 0 then ([], r)
  else if (prsL r.rest).2.2 ≠ 0 then ([], { r with f := (prsL r.rest).2.2 })
  else if min most 16777216 < ((prsL r.rest).1 : Int) then ([], { r with f := 5 })
  else if (r.rest.length : Int) - (prsL r.rest).2.1 < (prsL r.rest).1 then ([], { r with f := 28 })
  else ((r.rest.drop (prsL r.rest).2.1).take (prsL r.rest).1, { r with at_ := r.at_ + ((prsL r.rest).2.1 + (prsL r.rest).1) })
def RS.close (r : RS) : Int := if r.f = 0 ∧ 0 < r.rest.length then 5 else r.f
end Go.Proofs.YtehmgeodpjmfaaaGreatDoor
