/- law 50: ConsequenceCounts, the plain part: the list that the law makes, the two rows that it grows, the counts. -/
import Derived.Test.YtehmgeodpjmfaaaGreatDoorCount
namespace Go.Proofs.YtehmgeodpjmfaaaGreatDoor
open Go.RowKit

def mkC (c : ConsS) (k : Int) (i : Nat) : ConsS := { c with kind := k, place := (i : Int) }
def mkL (c : ConsS) : Nat → List Int → List ConsS
  | _, [] => []
  | i, k :: ks => mkC c k i :: mkL c (i + 1) ks
theorem mkL_snoc (c : ConsS) : ∀ (l : List Int) (j : Nat) (k : Int), mkL c j (l ++ [k]) = mkL c j l ++ [mkC c k (j + l.length)]
  | [], j, k => by simp [mkL]
  | x :: l, j, k => by
    rw [List.cons_append, mkL, mkL_snoc c l (j + 1) k, mkL, List.cons_append, List.length_cons, show j + 1 + l.length = j + (l.length + 1) by omega]
theorem mkL_len (c : ConsS) : ∀ (l : List Int) (j : Nat), (mkL c j l).length = l.length
  | [], _ => rfl
  | _ :: l, j => by rw [mkL, List.length_cons, mkL_len c l (j + 1), List.length_cons]
theorem mkL_take (c : ConsS) (l : List Int) (i : Nat) (h : i < l.length) : mkL c 0 (l.take (i + 1)) = mkL c 0 (l.take i) ++ [mkC c l[i] i] := by
  rw [take_snoc l i h, mkL_snoc, Nat.zero_add, List.length_take, show min i l.length = i by omega]
theorem diffL_snoc (l : List ConsS) (c : ConsS) : diffL (l ++ [c]) = if c.kind ≠ 1 then diffL l ++ [c] else diffL l := by
  unfold diffL
  rw [List.filter_append]
  by_cases h : c.kind ≠ 1
  · rw [if_pos h]; simp [h]
  · rw [if_neg h]; simp [h]
theorem mkL_ok (c : ConsS) (hc : ConsOk c) : ∀ (l : List Int) (j : Nat), (∀ k ∈ l, I64 k) → j + l.length ≤ 1000 → ∀ x ∈ mkL c j l, ConsOk x
  | [], _, _, _, x, hx => by cases hx
  | k :: l, j, hl, hj, x, hx => by
    rw [mkL, List.mem_cons] at hx
    rw [List.length_cons] at hj
    rcases hx with rfl | hx
    · obtain ⟨h1, h2, h3, h4, h5, h6, h7, h8⟩ := hc
      exact ⟨hl k (by simp), h2, h3, by show I64 (j : Int); unfold I64; omega, h5, h6, h7, h8⟩
    · exact mkL_ok c hc l (j + 1) (fun k hk => hl k (by simp [hk])) (by omega) x hx

/-- The law's loop: two rows of its own, the box of what came in, the counts. -/
structure StC (w : World) (N : Nat) (A : Array Value) (wx : World) (u v : Value) (l m : List ConsS) (x : C5) : Prop where
  ou : wx.ownsRow (N + 1) 37 14 u l.length (l.flatMap encC)
  ov : wx.ownsRow (N + 1) 37 14 v m.length (m.flatMap encC)
  ne : ∀ g, u.ownBlock = some g → v.ownBlock ≠ some g
  bx : wx.heap[w.heap.size]? = some (Obj.cells A 37 (0, 0))
  bn : wx.heap[N]? = some (Obj.cells #[.int .i64 x.a, .int .i64 x.b, .int .i64 x.c, .int .i64 x.d, .int .i64 x.e] 53 (0, 0))
  lt : w.heap.size < N
  ext : Ext w wx
theorem StC.alloc {w wx : World} {N : Nat} {A : Array Value} {u v : Value} {l m : List ConsS} {x : C5} (h : StC w N A wx u v l m x) (o : Obj) : StC w N A (wx.alloc o) u v l m x :=
  have hx : Ext wx (wx.alloc o) := (Ext.refl wx).alloc o
  ⟨owns_ext h.ou hx, owns_ext h.ov hx, h.ne, (hx.block (Array.getElem?_eq_some_iff.1 h.bx).1).trans h.bx, (hx.block (Array.getElem?_eq_some_iff.1 h.bn).1).trans h.bn, h.lt, h.ext.trans hx⟩
theorem StC.addU {w wx w' : World} {N : Nat} {A : Array Value} {u u' v : Value} {l m : List ConsS} {x : C5} (h : StC w N A wx u v l m x) (c : ConsS) (hu : w'.ownsRow (N + 1) 37 14 u' (l.length + 1) (l.flatMap encC ++ encC c)) (hg : wx.grownBy w' u.ownBlock) (hb : u'.ownBlock = u.ownBlock ∨ u'.ownBlock = some wx.heap.size) : StC w N A w' u' v (l ++ [c]) m x := by
  have hlt := fun g e => h.ou.lt g e
  have hlv := fun g e => h.ov.lt g e
  have far : ∀ k, k < wx.heap.size → k ≤ N → w'.heap[k]? = wx.heap[k]? := fun k hk hN => hg.block k hk (fun e => by have := (hlt k e.symm).1; omega)
  refine ⟨by simpa using hu, h.ov.kept hg ?_, ?_, (far _ (Array.getElem?_eq_some_iff.1 h.bx).1 (by have := h.lt; omega)).trans h.bx, (far _ (Array.getElem?_eq_some_iff.1 h.bn).1 (Nat.le_refl _)).trans h.bn, h.lt, ext_owns h.ou h.ext (by have := h.lt; omega) hg⟩
  · cases hv : v.ownBlock with
    | none => exact .inl rfl
    | some g => exact .inr (fun e => h.ne g e.symm hv)
  · intro g e hv
    rcases hb with hb | hb
    · exact h.ne g (hb.symm.trans e) hv
    · have := (hlv g hv).2
      have := Option.some.inj (hb.symm.trans e)
      omega
theorem StC.addV {w wx w' : World} {N : Nat} {A : Array Value} {u v v' : Value} {l m : List ConsS} {x : C5} (h : StC w N A wx u v l m x) (c : ConsS) (hu : w'.ownsRow (N + 1) 37 14 v' (m.length + 1) (m.flatMap encC ++ encC c)) (hg : wx.grownBy w' v.ownBlock) (hb : v'.ownBlock = v.ownBlock ∨ v'.ownBlock = some wx.heap.size) : StC w N A w' u v' l (m ++ [c]) x := by
  have hlt := fun g e => h.ov.lt g e
  have hlu := fun g e => h.ou.lt g e
  have far : ∀ k, k < wx.heap.size → k ≤ N → w'.heap[k]? = wx.heap[k]? := fun k hk hN => hg.block k hk (fun e => by have := (hlt k e.symm).1; omega)
  refine ⟨h.ou.kept hg ?_, by simpa using hu, ?_, (far _ (Array.getElem?_eq_some_iff.1 h.bx).1 (by have := h.lt; omega)).trans h.bx, (far _ (Array.getElem?_eq_some_iff.1 h.bn).1 (Nat.le_refl _)).trans h.bn, h.lt, ext_owns h.ov h.ext (by have := h.lt; omega) hg⟩
  · cases hv : u.ownBlock with
    | none => exact .inl rfl
    | some g => exact .inr (fun e => h.ne g hv e.symm)
  · intro g e hv
    rcases hb with hb | hb
    · exact h.ne g e (hb.symm.trans hv)
    · have := (hlu g e).2
      have := Option.some.inj (hb.symm.trans hv)
      omega
theorem StC.setN {w wx : World} {N : Nat} {A : Array Value} {u v : Value} {l m : List ConsS} {x : C5} (h : StC w N A wx u v l m x) (i : Nat) (y : Value) (x' : C5) (hx : (#[.int .i64 x.a, .int .i64 x.b, .int .i64 x.c, .int .i64 x.d, .int .i64 x.e] : Array Value).setIfInBounds i y = #[.int .i64 x'.a, .int .i64 x'.b, .int .i64 x'.c, .int .i64 x'.d, .int .i64 x'.e]) : StC w N A (wx.setCell ⟨N, i, none⟩ y) u v l m x' := by
  have hlu := fun g e => h.ou.lt g e
  have hlv := fun g e => h.ov.lt g e
  have hg : wx.grownBy (wx.setCell ⟨N, i, none⟩ y) (some N) := ⟨rfl, rfl, rfl, by simp, fun k _ hk => Below.heap_setCell wx ⟨N, i, none⟩ y k (fun e => hk (by rw [e]))⟩
  refine ⟨h.ou.kept hg ?_, h.ov.kept hg ?_, h.ne, (Below.heap_setCell wx ⟨N, i, none⟩ y w.heap.size (by have := h.lt; simp; omega)).trans h.bx, by rw [← hx]; exact heap_setCell_at h.bn y, h.lt, h.ext.setCell (by have := h.lt; simp; omega) y⟩
  · cases hv : u.ownBlock with
    | none => exact .inl rfl
    | some g => exact .inr (fun e => by have := (hlu g hv).1; have := Option.some.inj e; omega)
  · cases hv : v.ownBlock with
    | none => exact .inl rfl
    | some g => exact .inr (fun e => by have := (hlv g hv).1; have := Option.some.inj e; omega)

/-! Two arrays of five ints. -/
def c5K (x : C5) : List Lit := [.int .i64 x.a, .int .i64 x.b, .int .i64 x.c, .int .i64 x.d, .int .i64 x.e]
theorem kl_five (x : C5) (h : I64 x.a ∧ I64 x.b ∧ I64 x.c ∧ I64 x.d ∧ I64 x.e) : Tryz.prog.keyLits 2 53 (c5V x).cells.toList = some (c5K x) := by
  have u := Tryz.underlying53
  have u2 := Tryz.underlying3
  have c0 : Tryz.prog.cellsOf 53 = 5 := by kernel_rfl
  have c2 : Tryz.prog.cellsOf 3 = 1 := by kernel_rfl
  obtain ⟨h1, h2, h3, h4, h5⟩ := h
  have w1 := wf_i64 h1
  have w2 := wf_i64 h2
  have w3 := wf_i64 h3
  have w4 := wf_i64 h4
  have w5 := wf_i64 h5
  generalize Tryz.prog = P at *
  simp only [Program.keyLits, u, c5V, Value.cells]
  rw [if_pos (by rw [c0]; rfl)]
  simp [c2, List.range_succ, c5K, u2, w1, w2, w3, w4, w5]
theorem formed_five (x : C5) : (c5V x).formed Tryz.prog 53 = true := by
  have u := Tryz.underlying53
  have c0 : Tryz.prog.cellsOf 53 = 5 := by kernel_rfl
  simp [Value.formed, c5V, u, c0]
theorem eql_five (x : C5) (h : x.a + x.b + x.c + x.d + x.e ≤ 2000000) (w : World) : (Op.equalIn 10000 53 (c5V x) (c5V x)).run Tryz.prog w = .ok true w := by
  have hk := kl_five x (by unfold I64; omega)
  obtain ⟨r, hr, hi⟩ := eql_deep (P := Tryz.prog) (t := 53) 100 (by decide) (by kernel_rfl) w 2 2 (c5V x) (c5V x) _ _ (formed_five x) (formed_five x) hk hk
  have h : r = true := hi.2 rfl
  rw [← h]; exact hr
end Go.Proofs.YtehmgeodpjmfaaaGreatDoor
