/- consequence.Compare's answer, in plain words. -/
import Derived.Test.YtehmgeodpjmfaaaGreatDoorMap
namespace Go.Proofs.YtehmgeodpjmfaaaGreatDoor
open Go.RowKit

structure ConsS where
  kind : Int
  own : ByteArray
  num : Int
  place : Int
  old : OutS
  oldAt : Int
  new : OutS
  newAt : Int
  deriving DecidableEq
def encC (c : ConsS) : List Value := [.int .i64 c.kind, .string c.own, .int .i64 c.num, .int .i64 c.place, .int .i64 c.old.chan, .string c.old.target, .string c.old.text, .int .i64 c.old.user, .int .i64 c.oldAt, .int .i64 c.new.chan, .string c.new.target, .string c.new.text, .int .i64 c.new.user, .int .i64 c.newAt]
def slotOf (e : EntS) : SlotS := ⟨e.own, e.num⟩
def firstL (all : List EntS) (s : SlotS) : Option EntS := all.find? (fun x => decide (slotOf x = s))
def thereM (l : List EntS) (e : EntS) : Option Value := if e ∈ l then some (.bool true) else none
def firstM (all : List EntS) (s : SlotS) : Option Value := (firstL all s).map entV
theorem thereM_snoc (l : List EntS) (e x : EntS) : upd (thereM l) e (.bool true) x = thereM (l ++ [e]) x := by
  unfold upd thereM
  by_cases h : x = e
  · subst h; simp
  · simp [h]
theorem firstL_snoc (l : List EntS) (e : EntS) (s : SlotS) : firstL (l ++ [e]) s = (firstL l s).or (if slotOf e = s then some e else none) := by
  unfold firstL
  rw [List.find?_append]
  congr 1
  by_cases h : slotOf e = s
  · simp [h]
  · simp [h]
theorem firstM_new {l : List EntS} {e : EntS} (h : firstL l (slotOf e) = none) (s : SlotS) : upd (firstM l) (slotOf e) (entV e) s = firstM (l ++ [e]) s := by
  unfold upd firstM
  rw [firstL_snoc]
  by_cases hs : s = slotOf e
  · subst hs; rw [if_pos rfl, h, if_pos rfl]; rfl
  · rw [if_neg hs, if_neg (fun h => hs h.symm)]; simp
theorem firstM_old {l : List EntS} {e y : EntS} (h : firstL l (slotOf e) = some y) (s : SlotS) : firstM l s = firstM (l ++ [e]) s := by
  unfold firstM
  rw [firstL_snoc]
  by_cases hs : slotOf e = s
  · subst hs; rw [h]; rfl
  · rw [if_neg hs]; simp
theorem firstL_mem {l : List EntS} {s : SlotS} {y : EntS} (h : firstL l s = some y) : y ∈ l ∧ slotOf y = s := by
  unfold firstL at h
  exact ⟨List.mem_of_find?_eq_some h, by simpa using List.find?_some h⟩

/-- What is said of the entry x at the place j. -/
def consOf (all : List EntS) (j : Nat) (x : EntS) : ConsS :=
  if x ∈ all then ⟨1, x.own, x.num, j, x.out, x.tick, x.out, x.tick⟩
  else match firstL all (slotOf x) with
    | some y => ⟨3, x.own, x.num, j, x.out, x.tick, y.out, y.tick⟩
    | none => ⟨2, x.own, x.num, j, x.out, x.tick, outZ, 0⟩
def metOf (all : List EntS) (x : EntS) : Option EntS := if x ∈ all then some x else firstL all (slotOf x)
def consN (x : EntS) : ConsS := ⟨4, x.own, x.num, -1, outZ, 0, x.out, x.tick⟩
def consL (all : List EntS) : Nat → List LeftS → List ConsS
  | _, [] => []
  | j, x :: l => consOf all j x.ent :: consL all (j + 1) l
def metL (all : List EntS) (l : List LeftS) : List EntS := l.filterMap (fun x => metOf all x.ent)
def compareL (all : List EntS) (l : List LeftS) : List ConsS := consL all 0 l ++ (all.filter (fun x => decide (x ∉ metL all l))).map consN
theorem consL_snoc (all : List EntS) : ∀ (l : List LeftS) (j : Nat) (x : LeftS), consL all j (l ++ [x]) = consL all j l ++ [consOf all (j + l.length) x.ent]
  | [], j, x => by simp [consL]
  | y :: l, j, x => by
    rw [List.cons_append, consL, consL_snoc all l (j + 1) x, consL, List.cons_append, List.length_cons, show j + 1 + l.length = j + (l.length + 1) by omega]
theorem consL_len (all : List EntS) : ∀ (l : List LeftS) (j : Nat), (consL all j l).length = l.length
  | [], _ => rfl
  | _ :: l, j => by rw [consL, List.length_cons, consL_len all l (j + 1), List.length_cons]
theorem consL_get (all : List EntS) : ∀ (l : List LeftS) (j i : Nat) (h : i < l.length), (consL all j l)[i]? = some (consOf all (j + i) l[i].ent)
  | x :: l, j, 0, _ => by simp [consL]
  | x :: l, j, i + 1, h => by
    rw [consL, List.getElem?_cons_succ, consL_get all l (j + 1) i (by simpa using h), show j + 1 + i = j + (i + 1) by omega]
    simp
theorem take_snoc {α : Type} (l : List α) (j : Nat) (h : j < l.length) : l.take (j + 1) = l.take j ++ [l[j]] := by
  rw [List.take_add_one, List.getElem?_eq_getElem h]; rfl
theorem consL_take (all : List EntS) (l : List LeftS) (j : Nat) (h : j < l.length) : consL all 0 (l.take (j + 1)) = consL all 0 (l.take j) ++ [consOf all j l[j].ent] := by
  rw [take_snoc l j h, consL_snoc, Nat.zero_add, List.length_take, Nat.min_eq_left (by omega)]
theorem metL_take (all : List EntS) (l : List LeftS) (j : Nat) (h : j < l.length) : metL all (l.take (j + 1)) = metL all (l.take j) ++ (metOf all l[j].ent).toList := by
  unfold metL
  rw [take_snoc l j h, List.filterMap_append, List.filterMap_cons, List.filterMap_nil]
  cases metOf all l[j].ent <;> rfl
theorem filter_take {α : Type} (p : α → Bool) (l : List α) (j : Nat) (h : j < l.length) : (l.take (j + 1)).filter p = if p l[j] = true then (l.take j).filter p ++ [l[j]] else (l.take j).filter p := by
  rw [take_snoc l j h, List.filter_append, List.filter_cons, List.filter_nil]
  split <;> simp
theorem metL_ok {all : List EntS} {l : List LeftS} (h : ∀ e ∈ all, EntOk e) (e : EntS) (he : e ∈ metL all l) : EntOk e := by
  unfold metL at he
  obtain ⟨x, _, hx⟩ := List.mem_filterMap.1 he
  unfold metOf at hx
  split at hx
  · rename_i h1; cases hx; exact h _ h1
  · exact h _ (firstL_mem hx).1
end Go.Proofs.YtehmgeodpjmfaaaGreatDoor
