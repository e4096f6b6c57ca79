/- What lineage.parts yields, as a list; what lineage.parse answers. Plain: no program. -/
import Derived.Test.YtehmgeodpjmfaaaGreatDoorBase
namespace Go.Proofs.YtehmgeodpjmfaaaGreatDoor
open Go.RowKit

def isDig (c : UInt8) : Bool := 48 ≤ c.toNat && c.toNat ≤ 57
def numL (l : List UInt8) : Int := l.foldl (fun a c => a * 10 + ((c.toNat : Int) - 48)) 0
def digs (l : List UInt8) : Nat := (l.takeWhile isDig).length

/-- ordinal, place, error -/
structure Part where
  ord : Int
  at_ : Int
  e : Int
  deriving DecidableEq

def partsL : Nat → Nat → List UInt8 → List Part
  | 0, p, _ => [⟨0, p, 9⟩]
  | m + 1, p, rest =>
    if rest = [] then [⟨0, p, 4⟩]
    else if digs rest = 0 then [⟨0, p, 6⟩]
    else if rest.headD 0 = 48 then [⟨0, p, 3⟩]
    else if 6 < digs rest then [⟨0, p, 2⟩]
    else ⟨numL (rest.take (digs rest)), p, 0⟩ ::
      match rest.drop (digs rest) with
      | [] => []
      | c :: r => if c ≠ 46 then [⟨0, (p + digs rest : Nat), 6⟩] else partsL m (p + digs rest + 1) r
def partsOf (l : List UInt8) : List Part := if l = [] then [] else partsL 8 0 l

theorem digs_le (l : List UInt8) : digs l ≤ l.length := by
  unfold digs
  induction l with
  | nil => simp
  | cons c l ih => rw [List.takeWhile_cons]; split <;> simp <;> omega
theorem digs_all (l : List UInt8) : ∀ c ∈ l.take (digs l), isDig c = true := by
  unfold digs
  induction l with
  | nil => simp
  | cons c l ih =>
    rw [List.takeWhile_cons]
    split
    · rename_i h
      intro x hx
      simp at hx
      rcases hx with rfl | hx
      · exact h
      · exact ih x hx
    · simp
theorem digs_step (l : List UInt8) (k : Nat) (c : UInt8) (hk : k ≤ digs l) (hc : l[k]? = some c) (hd : isDig c = true) : k + 1 ≤ digs l := by
  induction l generalizing k with
  | nil => simp at hc
  | cons x l ih =>
    unfold digs at *
    rw [List.takeWhile_cons] at *
    cases k with
    | zero =>
      simp at hc
      subst hc
      rw [if_pos hd]
      simp
    | succ k =>
      split at hk
      · rename_i hx
        rw [if_pos hx]
        simp at hk hc ⊢
        exact ih k hk hc
      · simp at hk
theorem digs_stop (l : List UInt8) (k : Nat) (c : UInt8) (hk : k ≤ digs l) (hc : l[k]? = some c) (hd : isDig c = false) : digs l = k := by
  induction l generalizing k with
  | nil => simp at hc
  | cons x l ih =>
    unfold digs at *
    rw [List.takeWhile_cons] at *
    cases k with
    | zero =>
      simp at hc
      subst hc
      simp [hd]
    | succ k =>
      split at hk
      · rename_i hx
        rw [if_pos hx]
        simp at hk hc ⊢
        exact ih k hk hc
      · simp at hk
theorem digs_end (l : List UInt8) (k : Nat) (hk : k ≤ digs l) (hl : l.length ≤ k) : digs l = k := by have := digs_le l; omega

theorem partsL_num (m p : Nat) (rest : List UInt8) (h1 : rest ≠ []) (h2 : digs rest ≠ 0) (h3 : rest.headD 0 ≠ 48) (h4 : digs rest ≤ 6) :
    (rest.drop (digs rest) = [] → partsL (m + 1) p rest = [⟨numL (rest.take (digs rest)), p, 0⟩]) ∧
    (∀ c r, rest.drop (digs rest) = c :: r → c ≠ 46 → partsL (m + 1) p rest = [⟨numL (rest.take (digs rest)), p, 0⟩, ⟨0, (p + digs rest : Nat), 6⟩]) ∧
    (∀ r, rest.drop (digs rest) = 46 :: r → partsL (m + 1) p rest = ⟨numL (rest.take (digs rest)), p, 0⟩ :: partsL m (p + digs rest + 1) r) := by
  refine ⟨fun h => ?_, fun c r h hc => ?_, fun r h => ?_⟩
  all_goals
    rw [partsL, if_neg h1, if_neg h2, if_neg h3, if_neg (by omega), h]
    try simp [*]
/-- What parse makes of the parts. -/
def parseL : List Int → List Part → List Int × Int × Int
  | acc, [] => (acc, 0, 0)
  | acc, p :: r => if p.e ≠ 0 then ([], p.at_, p.e) else parseL (acc ++ [p.ord]) r
def parseS (l : List UInt8) : List Int × Int × Int := parseL [] (partsOf l)
def validS (l : List UInt8) : Bool := (parseS l).2.2 == 0
def ordsS (l : List UInt8) : List Int := (parseS l).1
theorem ordsS_short : ∀ (ps : List Part) (acc : List Int), (parseL acc ps).1.length ≤ acc.length + ps.length
  | [], acc => by simp [parseL]
  | p :: r, acc => by
    unfold parseL
    split
    · simp
    · have := ordsS_short r (acc ++ [p.ord])
      simp at this ⊢
      omega
theorem partsL_short : ∀ (m p : Nat) (l : List UInt8), (partsL m p l).length ≤ m + 1
  | 0, _, _ => by simp [partsL]
  | m + 1, p, l => by
    unfold partsL
    split
    · simp
    · split
      · simp
      · split
        · simp
        · split
          · simp
          · simp only [List.length_cons]
            split
            · simp
            · split
              · simp
              · have := partsL_short m (p + digs l + 1) ‹_›
                omega
theorem partsOf_short (l : List UInt8) : (partsOf l).length ≤ 9 := by
  unfold partsOf
  split
  · simp
  · exact partsL_short 8 0 l
end Go.Proofs.YtehmgeodpjmfaaaGreatDoor
