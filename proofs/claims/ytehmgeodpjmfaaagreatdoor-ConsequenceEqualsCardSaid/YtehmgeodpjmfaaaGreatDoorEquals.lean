/- law 50: ConsequenceEquals, joined. -/
import Derived.Test.YtehmgeodpjmfaaaGreatDoorEqualsZero
import Derived.Test.YtehmgeodpjmfaaaGreatDoorEqualsPos
namespace Go.Proofs.YtehmgeodpjmfaaaGreatDoor
open Go.RowKit

theorem equals_any (a b : ConsS) (k : Nat) (w : World) (ha : ConsOk a) (hb : ConsOk b) (h1 : a.own.size ≤ 140737488351232) (h2 : a.old.text.size ≤ 140737488351232) :
    Calls Tryz.prog 5 #[consV a, consV b, .int .u8 k] w fun e w' => e = .returned (.bool true) ∧ Ext w w' := by
  by_cases hz : k % 9 = 0
  · exact equals_zero a b k w ha hb hz h1 h2
  · exact equals_pos a b k w ha hb hz h1 h2
end Go.Proofs.YtehmgeodpjmfaaaGreatDoor
