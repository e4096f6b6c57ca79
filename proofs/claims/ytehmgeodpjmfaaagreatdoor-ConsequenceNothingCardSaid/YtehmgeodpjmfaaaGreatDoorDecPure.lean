/- output: Decode gives back what Encode wrote. Plain. -/
import Derived.Test.YtehmgeodpjmfaaaGreatDoorDec
namespace Go.Proofs.YtehmgeodpjmfaaaGreatDoor
open Go.RowKit

theorem read_num_app {r : RS} {n : Nat} {t : List UInt8} (most : Int) (hf : r.f = 0) (hr : r.rest = natL n ++ t) (hn : n < 9223372036854775808) (hm : (n : Int) ≤ most) :
    (r.read 0 (numV most)).1 = n ∧ (r.read 0 (numV most)).2.f = 0 ∧ (r.read 0 (numV most)).2.rest = t := by
  have hp : prsL r.rest = (n, (natL n).length, 0) := by rw [hr]; exact parse_nat n t hn
  have hv : numV most r.rest = ((n : Int), (natL n).length, 0) := by
    unfold numV; rw [hp]; rw [if_neg (by simp; omega)]
  have e : r.read 0 (numV most) = ((n : Int), { r with at_ := r.at_ + (natL n).length }) := by
    unfold RS.read; rw [if_neg (by simpa using hf), hv, if_neg (by simp)]
  rw [e]
  refine ⟨rfl, hf, ?_⟩
  show r.b.drop (r.at_ + (natL n).length) = t
  have : r.b.drop (r.at_ + (natL n).length) = r.rest.drop (natL n).length := by unfold RS.rest; rw [List.drop_drop]
  rw [this, hr, List.drop_left]
theorem read_text_app {r : RS} {s t : List UInt8} (most : Int) (hf : r.f = 0) (hr : r.rest = natL s.length ++ (s ++ t)) (hm : (s.length : Int) ≤ most) (hs : s.length ≤ 16777216) :
    (r.read [] (textV most)).1 = s ∧ (r.read [] (textV most)).2.f = 0 ∧ (r.read [] (textV most)).2.rest = t := by
  have hp : prsL r.rest = (s.length, (natL s.length).length, 0) := by rw [hr]; exact parse_nat _ _ (by omega)
  have hl : r.rest.length = (natL s.length).length + (s.length + t.length) := by rw [hr]; simp
  have hv : textV most r.rest = (s, (natL s.length).length + s.length, 0) := by
    unfold textV; rw [hp]; simp only
    rw [if_neg (by simp), if_neg (by omega), if_neg (by rw [hl]; omega), hr, List.drop_left, List.take_left]
  have e : r.read [] (textV most) = (s, { r with at_ := r.at_ + ((natL s.length).length + s.length) }) := by
    unfold RS.read; rw [if_neg (by simpa using hf), hv, if_neg (by simp)]
  rw [e]
  refine ⟨rfl, hf, ?_⟩
  show r.b.drop (r.at_ + ((natL s.length).length + s.length)) = t
  have : r.b.drop (r.at_ + ((natL s.length).length + s.length)) = r.rest.drop ((natL s.length).length + s.length) := by unfold RS.rest; rw [List.drop_drop]
  rw [this, hr, ← List.append_assoc, ← List.drop_drop, List.append_assoc, List.drop_left, List.drop_left]
theorem outR_app {r : RS} {o : OutS} {t : List UInt8} (ho : o.chk = 0) (hf : r.f = 0) (hr : r.rest = outL o ++ t) : (outR r).1 = o ∧ (outR r).2.f = 0 ∧ (outR r).2.rest = t := by
  obtain ⟨o1, o2, o3, o4, _, o5, o6, o7⟩ := chk_ok ho
  obtain ⟨ch, tg, tx, us⟩ := o
  simp only at *
  have t1 : tg.data.toList.length = tg.size := Array.length_toList
  have t2 : tx.data.toList.length = tx.size := Array.length_toList
  have hr' : r.rest = natL ch.toNat ++ (natL tg.data.toList.length ++ (tg.data.toList ++ (natL tx.data.toList.length ++ (tx.data.toList ++ (natL us.toNat ++ t))))) := by
    rw [hr, t1, t2]; simp [outL, txtL, List.append_assoc]
  obtain ⟨a1, b1, c1⟩ := read_num_app 4 hf hr' (by omega) (by omega)
  obtain ⟨a2, b2, c2⟩ := read_text_app 64 b1 c1 (by omega) (by omega)
  obtain ⟨a3, b3, c3⟩ := read_text_app 4096 b2 c2 (by omega) (by omega)
  obtain ⟨a4, b4, c4⟩ := read_num_app 65535 b3 c3 (by omega) (by omega)
  refine ⟨?_, b4, c4⟩
  unfold outR
  simp only
  rw [a1, a2, a3, a4]
  have e1 : ((ch.toNat : Nat) : Int) = ch := by omega
  have e2 : ((us.toNat : Nat) : Int) = us := by omega
  rw [e1, e2]
theorem decL_outL {o : OutS} (ho : o.chk = 0) : decL (outL o) = (o, 0) := by
  obtain ⟨a, b, c⟩ := outR_app (r := ⟨outL o, 0, 0⟩) (t := []) ho rfl (by simp [RS.rest])
  unfold decL
  rw [if_neg ?_, a]
  rintro (h | h)
  · apply h; unfold RS.close; rw [if_neg (by rw [c]; simp), b]
  · rw [a] at h; exact h ho
end Go.Proofs.YtehmgeodpjmfaaaGreatDoor
