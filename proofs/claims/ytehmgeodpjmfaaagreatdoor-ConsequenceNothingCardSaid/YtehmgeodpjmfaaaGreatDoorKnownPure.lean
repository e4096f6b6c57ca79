/- law 50: what known compares, in plain words. -/
import Derived.Test.YtehmgeodpjmfaaaGreatDoorBuildPure
namespace Go.Proofs.YtehmgeodpjmfaaaGreatDoor
open Go.RowKit

theorem cmpI_self (a : Int) : cmpI a a = 0 := by unfold cmpI; simp
theorem cmpL_self : ∀ l : List Int, cmpL l l = 0
  | [] => rfl
  | x :: l => by rw [cmpL, cmpI_self, if_pos rfl]; exact cmpL_self l
theorem cmpB_self : ∀ l : List UInt8, Lib.compareBytes l l = 0
  | [] => rfl
  | x :: l => by rw [Lib.compareBytes, if_neg (by simp), if_neg (by simp)]; exact cmpB_self l
theorem cmpNm_self (n : NameS) : cmpNm n n = 0 := by
  have hb := cmpB_self n.text.data.toList
  unfold cmpNm cmpN
  rw [cmpI_self, cmpI_self, cmpI_self, cmpL_self, hb]
  decide
theorem valOf_list (x : ItemS) : (valOf x).data.toList = outL (itemOut x) := by unfold valOf; simp
theorem entOf_item {t : BT} {x : ItemS} (h : t.get (nameOf x) = some (valOf x)) : entOf t (nameOf x) = some (entI x) := by
  unfold entOf BT.val
  rw [h, Option.getD_some, valOf_list, decL_outL (itemOut_chk x), if_pos rfl]
  rfl
theorem allL_one (x : ItemS) : allL (stB [x]) = [entI x] := by
  have h : (stB [x]).get (nameOf x) = some (valOf x) := by
    show BT.get (.node .nil (nameOf x) (valOf x) .nil) (nameOf x) = _
    rw [BT.get, cmpNm_self]; rfl
  show (([(nameOf x, valOf x)].map (·.1)).filter (·.kind == 18)).filterMap (entOf (stB [x])) = _
  have : (([(nameOf x, valOf x)].map (·.1)).filter (·.kind == 18)) = [nameOf x] := rfl
  rw [this, List.filterMap_cons, entOf_item h, List.filterMap_nil]
def kx : ItemS := ⟨1, 0, 0, 0, ⟨#[120]⟩⟩
def ky : ItemS := ⟨1, 0, 0, 0, ⟨#[121]⟩⟩
theorem known_cmp : compareL (allL (stB [kx])) (ledB 0 [ky]) = [⟨3, nm12, 0, 0, itemOut ky, 0, itemOut kx, 0⟩] := by
  rw [allL_one]
  decide +kernel
end Go.Proofs.YtehmgeodpjmfaaaGreatDoor
