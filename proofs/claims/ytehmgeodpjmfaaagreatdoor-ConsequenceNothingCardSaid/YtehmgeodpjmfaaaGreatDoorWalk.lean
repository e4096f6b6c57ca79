/- state's iterator over a tree: walk, all: for every loop body that keeps what lay below. -/
import Derived.RangeFuncKeeps
import Derived.Test.YtehmgeodpjmfaaaGreatDoorParse
import Derived.Test.YtehmgeodpjmfaaaGreatDoorState
namespace Go.Proofs.YtehmgeodpjmfaaaGreatDoor
open Go.RowKit
attribute [local go_sem] Oper.semAt_some

theorem room_none (k : Nat) : Fence.wide.room k := fun d h => by cases h
theorem roundW {m m' : Nat} {P : Program} {l : Nat} {f : FuncId} {tmps : Array Value} {assign body : Code} {w : World} {R : Ending → World → Prop}
    (h : RoundIn Fence.wide m P l f tmps assign body w R) : RoundIn Fence.wide m' P l f tmps assign body w R := ⟨h.1, fun c cs _ => h.2 c cs (room_none _)⟩
theorem yieldW {m : Nat} (m' : Nat) {P : Program} {l : Nat} {args : Array Value} {W : World} {R : Ending → World → Prop} (h : YieldAt Fence.wide m P l args W R) : YieldAt Fence.wide m' P l args W R := by
  obtain ⟨fn, tmps, assign, body, hy, hR⟩ := h
  exact ⟨fn, tmps, assign, body, hy, roundW hR⟩

/-- A tree with the blocks of its nodes. -/
inductive AT where
  | nil
  | node (b : Nat) (l : AT) (n : NameS) (v : ByteArray) (r : AT)
def AT.bt : AT → BT
  | .nil => .nil
  | .node _ l n v r => .node l.bt n v r.bt
def AT.toA : AT → List (Nat × NameS × ByteArray)
  | .nil => []
  | .node b l n v r => l.toA ++ (b, n, v) :: r.toA
theorem AT.toA_toL : ∀ t : AT, t.toA.map (·.2) = t.bt.toL
  | .nil => rfl
  | .node _ l _ _ r => by simp [AT.toA, AT.bt, BT.toL, AT.toA_toL l, AT.toA_toL r]
def NodeAt (w : World) (x : Nat × NameS × ByteArray) : Prop := ∃ pl pr h s y, w.heap[x.1]? = some (Obj.cells (nodeCells x.2.1 x.2.2 pl pr h s y) 151 (0, 0))
theorem NodeAt.ext {w w' : World} (hx : Ext w w') {x : Nat × NameS × ByteArray} : NodeAt w x → NodeAt w' x
  | ⟨pl, pr, h, s, y, hb⟩ => ⟨pl, pr, h, s, y, (hx.block (Array.getElem?_eq_some_iff.1 hb).1).trans hb⟩
def IsA (w : World) : Option Addr → AT → Prop
  | p, .nil => p = none
  | p, .node b l n v r => ∃ pl pr h s y, p = some ⟨b, 0, none⟩ ∧ w.heap[b]? = some (Obj.cells (nodeCells n v pl pr h s y) 151 (0, 0)) ∧ IsA w pl l ∧ IsA w pr r
theorem IsA.ext {w w' : World} (hx : Ext w w') : ∀ {t : AT} {p : Option Addr}, IsA w p t → IsA w' p t
  | .nil, _, h => h
  | .node _ _ _ _ _, _, ⟨pl, pr, h, s, y, hp, hb, hl, hr⟩ => ⟨pl, pr, h, s, y, hp, (hx.block (Array.getElem?_eq_some_iff.1 hb).1).trans hb, IsA.ext hx hl, IsA.ext hx hr⟩
theorem IsA.of_isT {w : World} : ∀ {t : BT} {p : Option Addr}, IsT w p t → ∃ a : AT, a.bt = t ∧ IsA w p a
  | .nil, _, h => ⟨.nil, rfl, h⟩
  | .node _ n v _, _, ⟨b, pl, pr, hp, hb, hl, hr⟩ => by
    obtain ⟨al, hal, hl'⟩ := IsA.of_isT hl
    obtain ⟨ar, har, hr'⟩ := IsA.of_isT hr
    exact ⟨.node b al n v ar, by rw [AT.bt, hal, har], pl, pr, _, _, _, hp, hb, hl', hr'⟩
theorem IsA.nodes {w : World} : ∀ {t : AT} {p : Option Addr}, IsA w p t → ∀ x ∈ t.toA, NodeAt w x
  | .nil, _, _, x, hx => by simp [AT.toA] at hx
  | .node b l n v r, _, ⟨pl, pr, h, s, y, hp, hb, hl, hr⟩, x, hx => by
    simp only [AT.toA, List.mem_append, List.mem_cons] at hx
    rcases hx with hx | rfl | hx
    · exact IsA.nodes hl x hx
    · exact ⟨pl, pr, h, s, y, hb⟩
    · exact IsA.nodes hr x hx
def encA (x : Nat × NameS × ByteArray) : Array Value := #[.pointer (some ⟨x.1, 0, none⟩)]

set_option maxRecDepth 100000 in
set_option maxHeartbeats 4000000 in
theorem walkFrom (l N : Nat) (w : World) (J Jx : List (Nat × NameS × ByteArray) → World → Prop)
    (hY : ∀ m pre x W, NodeAt w x → J pre W → pre.length < N → YieldAt Fence.wide m Tryz.prog l (encA x) W fun e W' =>
      (e = .returned (.bool true) ∧ J (pre ++ [x]) W' ∧ Below w.heap.size W W') ∨ (e = .returned (.bool false) ∧ Jx (pre ++ [x]) W')) (T : AT) :
    ∀ (n : Nat) (p : Option Addr) (pre : List (Nat × NameS × ByteArray)) (W : World), IsA w p T → Ext w W → J pre W → pre.length + T.toA.length ≤ N →
      CallsIn Fence.wide n Tryz.prog 115 #[.pointer p, .func (.yield l) #[] #[]] W fun e W' =>
        (e = .returned (.bool true) ∧ J (pre ++ T.toA) W' ∧ Ext w W') ∨ (e = .returned (.bool false) ∧ ∃ q, q <+: T.toA ∧ Jx (pre ++ q) W') := by
  induction T with
  | nil =>
    intro n p pre W ht hx hJ _
    obtain rfl : p = none := ht
    have h6 : Fence.wide.fn 115 := trivial
    refine callsIn_of_wp Tryz.func115 rfl trivial ?_ rfl
    simp only [Tryz.ntmps115, List.size_toArray, List.length_cons, List.length_nil, Nat.reduceAdd, Nat.reduceSub, Array.replicate_succ, Array.replicate_zero, List.push_toArray, List.append_toArray, List.nil_append, List.cons_append]
    gi_wp2
    · exact absurd ‹some undef = some (Value.bool _)› (by intro h; cases h)
    · exact absurd ‹some undef = some (Value.bool _)› (by intro h; cases h)
    · refine ⟨fun _ h => (by cases h), ?_⟩
      gi_wp2
      go_ret
      exact .inl ⟨rfl, by simpa [AT.toA] using hJ, hx⟩
  | node b tl m v tr ihl ihr =>
    intro n p pre W ht hx hJ hN
    obtain ⟨pl, pr, hh, ss, yy, rfl, hb, hl, hr⟩ := ht
    have hcl : ∀ {W'}, Ext w W' → W'.cell? ⟨b, 6, none⟩ = some (.pointer pl) := fun hx' => (node_cells ((hx'.block (Array.getElem?_eq_some_iff.1 hb).1).trans hb)).2.2.2.2.2.2.1
    have hcr : ∀ {W'}, Ext w W' → W'.cell? ⟨b, 7, none⟩ = some (.pointer pr) := fun hx' => (node_cells ((hx'.block (Array.getElem?_eq_some_iff.1 hb).1).trans hb)).2.2.2.2.2.2.2.1
    have hdd : ∀ k : Nat, (Fence.wide.depth.isSome = true → 1 ≤ k) := fun k h => by cases h
    simp only [AT.toA, List.length_append, List.length_cons] at hN
    have c0 := hcl hx
    have hy2 : ∀ W1, J (pre ++ tl.toA) W1 → Ext w W1 → YieldAt Fence.wide (n - 1) Tryz.prog l #[.pointer (some ⟨b, 0, none⟩)] W1 fun e W2 =>
        (e = .returned (.bool true) ∧ J (pre ++ tl.toA ++ [(b, m, v)]) W2 ∧ Ext w W2 ∧ W2.cell? ⟨b, 7, none⟩ = some (.pointer pr)) ∨ (e = .returned (.bool false) ∧ Jx (pre ++ tl.toA ++ [(b, m, v)]) W2) := fun W1 hJ1 hb1 =>
      YieldAt.mono (hY (n - 1) _ (b, m, v) W1 ⟨_, _, _, _, _, hb⟩ hJ1 (by simp; omega)) fun e W2 h => h.elim
        (fun ⟨he, hj, hb2⟩ => .inl ⟨he, hj, Below.trans hb1 hb2, hcr (Below.trans hb1 hb2)⟩) .inr
    have ih1 := (ihl (n - 1) pl pre W hl hx hJ (by omega)).mono (R' := fun e W1 =>
        (e = .returned (.bool true) ∧ YieldAt Fence.wide (n - 1) Tryz.prog l #[.pointer (some ⟨b, 0, none⟩)] W1 fun e W2 =>
          (e = .returned (.bool true) ∧ J (pre ++ tl.toA ++ [(b, m, v)]) W2 ∧ Ext w W2 ∧ W2.cell? ⟨b, 7, none⟩ = some (.pointer pr)) ∨ (e = .returned (.bool false) ∧ Jx (pre ++ tl.toA ++ [(b, m, v)]) W2)) ∨
        (e = .returned (.bool false) ∧ ∃ q, q <+: tl.toA ∧ Jx (pre ++ q) W1))
      (fun e W1 h => h.elim (fun ⟨he, hj, hb1⟩ => .inl ⟨he, hy2 W1 hj hb1⟩) .inr)
    have HR := Lib.hid hr
    clear hy2 ihl hb hl hr hcl hcr
    have h6 : Fence.wide.fn 115 := trivial
    refine callsIn_of_wp Tryz.func115 rfl trivial ?_ rfl
    simp only [Tryz.ntmps115, List.size_toArray, List.length_cons, List.length_nil, Nat.reduceAdd, Nat.reduceSub, Array.replicate_succ, Array.replicate_zero, List.push_toArray, List.append_toArray, List.nil_append, List.cons_append]
    gi_wp2_with (first
      | ((try refine ⟨hdd _, ?_⟩); gi_at_call 115; refine ih1.mono ?_; clear ih1; rintro e W1 (⟨rfl, fn, tmps, assign, body, hy, hR⟩ | ⟨rfl, q, hq, hx1⟩))
      | ((try refine ⟨hdd _, ?_⟩); refine hR.mono ?_; clear hR; rintro e W2 (⟨rfl, hJ2, hb2, c2'⟩ | ⟨rfl, hx2⟩))
      | ((try refine ⟨hdd _, ?_⟩); gi_at_call 115; refine (ihr (n - 1) pr _ _ HR.out hb2 hJ2 (by simp; omega)).mono ?_; rintro e W3 (⟨rfl, hJ3, hb3⟩ | ⟨rfl, q, hq, hx3⟩)))
    · go_ret
      exact .inl ⟨rfl, by simpa [AT.toA, List.append_assoc] using hJ3, hb3⟩
    · go_ret
      obtain ⟨r, hr'⟩ := hq
      exact .inr ⟨rfl, tl.toA ++ (b, m, v) :: q, ⟨r, by simp [AT.toA, ← hr']⟩, by simpa [List.append_assoc] using hx3⟩
    · go_ret
      exact .inr ⟨rfl, tl.toA ++ [(b, m, v)], ⟨tr.toA, by simp [AT.toA]⟩, by simpa [List.append_assoc] using hx2⟩
    · refine ⟨fun _ h => (by cases h), ?_⟩
      gi_wp2
      go_ret
      exact .inr ⟨rfl, q, hq.trans (by simp [AT.toA]), hx1⟩
end Go.Proofs.YtehmgeodpjmfaaaGreatDoor
