/- lineage.parse, Valid, Ordinals: as functions of the bytes. -/
import Derived.BigRegion
import Derived.BigRegionIn
import Derived.Test.YtehmgeodpjmfaaaGreatDoorParts
namespace Go.Proofs.YtehmgeodpjmfaaaGreatDoor
open Go.RowKit
attribute [local go_sem] Oper.semAt_some

theorem info_int : (Tryz.prog.info? 3).map (fun i => (i.zero, i.size, i.bytes)) = some (some (.int .i64 0), 1, 8) := by kernel_rfl

set_option maxRecDepth 100000 in
theorem parts1_nil (n : Nat) (l Bs : Nat) (s : ByteArray) (W : World) (hc : W.cell? ⟨Bs, 0, none⟩ = some (.string s)) (hs0 : s.size = 0) :
    CallsIn Fence.wide n Tryz.prog 141 #[.func (.yield l) #[] #[], .pointer (some ⟨Bs, 0, none⟩)] W fun e W' => (∃ v, e = .returned v) ∧ W = W' := by
  have hne0 : s.data.toList = [] := List.eq_nil_of_length_eq_zero hs0
  have hne : s.toList.isEmpty = true := by rw [Lib.toList_data, hne0]; rfl
  have hne1 : s.toList = [] := by rw [Lib.toList_data, hne0]
  refine callsIn_of_wp Tryz.func141 rfl trivial ?_ rfl
  simp only [Tryz.ntmps141, List.size_toArray, List.length_cons, List.length_nil, Nat.reduceAdd, Nat.reduceSub, Array.replicate_succ, Array.replicate_zero, List.push_toArray, List.append_toArray, List.nil_append, List.cons_append]
  gi_wp2
  gi_loop [3] (fun _ => True) (fun _ => 0)
  case atStart => trivial
  case round =>
    gi_wp2
    refine bodyPost_end (results_none rfl _ _ _) rfl ?_
    exact ⟨⟨_, rfl⟩, rfl⟩

theorem parts_stops (n : Nat) (hn : 1 ≤ n) (Bs : Nat) (s : ByteArray) (hs : s.size ≤ 9223372036854775000) (w : World) (hB : Bs < w.heap.size) (hc : w.cell? ⟨Bs, 0, none⟩ = some (.string s)) :
    SeqStopsK Fence.wide n Tryz.prog 141 #[.pointer (some ⟨Bs, 0, none⟩)] (fun x : Part => #[encPart x]) (KpT Bs 220) (fun ys => ys = partsOf s.data.toList) (fun pre => pre <+: partsOf s.data.toList) 10 w := by
  intro l J Jx W hW hJ hJx hY h0
  have hc' : W.cell? ⟨Bs, 0, none⟩ = some (.string s) := (hW.cell (p := ⟨Bs, 0, none⟩) hB).trans hc
  by_cases h : s.size = 0
  · refine (parts1_nil n l Bs s W hc' h).mono ?_
    rintro e W' ⟨he, rfl⟩
    refine ⟨he, .inl ⟨[], ?_, h0⟩⟩
    have : s.data.toList = [] := List.eq_nil_of_length_eq_zero h
    rw [this]; rfl
  · exact parts1_in n hn l Bs s hs J Jx W hJ hY hc' h0 (by omega)

theorem parts_call (n : Nat) (s : ByteArray) (w : World) :
    CallsIn Fence.wide n Tryz.prog 125 #[.string s] w fun e w' => e = .returned (.func (.func 141) #[] #[.pointer (some ⟨w.heap.size, 0, none⟩)]) ∧ w' = w.alloc (.cells #[.string s] 9) := by
  refine callsIn_of_wp Tryz.func125 rfl trivial ?_ rfl
  simp only [Tryz.ntmps125, List.size_toArray, List.length_cons, List.length_nil, Nat.reduceAdd, Nat.reduceSub, Array.replicate_succ, Array.replicate_zero, List.push_toArray, List.append_toArray, List.nil_append, List.cons_append]
  gi_wp2
  go_ret
  exact ⟨rfl, rfl⟩

theorem blk_own {β : Type} (B₀ b : Nat) (o : β → Array Value) (T : TypeId) (f : Nat × Nat) : OwnFrom B₀ (fun (s : β) (W : World) => W.heap[b]? = some (Obj.cells (o s) T f)) := by
  intro s W W' row hs hg hr
  refine (hg.block b (Array.getElem?_eq_some_iff.1 hs).1 ?_).trans hs
  intro e
  obtain ⟨_, ob, h1, h2⟩ := hr b e.symm
  rw [hs] at h1
  cases h1
  cases h2

def parseRes (l : List UInt8) (e : Ending) (w w' : World) : Prop :=
  ∃ v, e = .returned (.tuple #[v, .int .i64 (parseS l).2.1, .int .i64 (parseS l).2.2]) ∧ Rd w' 1 encI v (ordsS l) ∧ Ext w w'

def ordsP (ps : List Part) : List Int := ps.map (·.ord)
def okP (ps : List Part) : Prop := ∀ x ∈ ps, x.e = 0

theorem blk_appended {W w1 : World} {n₀ B b : Nat} {e T : TypeId} {size : Nat} {v v' : Value} {k : Nat} {xs : List Value} {tmp : Obj} {c : Array Value} {f : Nat × Nat}
    (hrow : W.ownsRow n₀ e size v k xs) (hgrow : (W.alloc tmp).grownBy w1 v.ownBlock) (hTe : T ≠ e) (hb : b ≠ B) (h : W.heap[b]? = some (Obj.cells c T f)) :
    (w1.setCell ⟨B, 0, none⟩ v').heap[b]? = some (Obj.cells c T f) := by
  have hlt := (Array.getElem?_eq_some_iff.1 h).1
  rw [Below.heap_setCell _ _ _ _ hb]
  refine (hgrow.block b (by simp; omega) ?_).trans ((Below.heap_alloc _ _ _ hlt).trans h)
  rcases hrow.2 with ⟨rfl, _⟩ | ⟨g, cap, cur, rfl, _, hgb, _⟩
  · simp [Value.ownBlock]
  · intro e'
    obtain rfl : b = g := by simpa [Value.ownBlock] using e'
    rw [h] at hgb; cases hgb; exact hTe rfl

theorem ordsP_snoc (ps : List Part) (x : Part) : ordsP (ps ++ [x]) = ordsP ps ++ [x.ord] := by simp [ordsP]
theorem parseL_ok : ∀ (ps : List Part) (acc : List Int), okP ps → parseL acc ps = (acc ++ ordsP ps, 0, 0)
  | [], acc, _ => by simp [parseL, ordsP]
  | p :: r, acc, h => by
    rw [parseL, if_neg (by simp [h p (by simp)]), parseL_ok r _ (fun x hx => h x (by simp [hx]))]
    simp [ordsP]
theorem parseL_stop : ∀ (ps : List Part) (acc : List Int) (x : Part) (r : List Part), okP ps → x.e ≠ 0 → parseL acc (ps ++ x :: r) = ([], x.at_, x.e)
  | [], acc, x, r, _, hx => by simp [parseL, hx]
  | p :: q, acc, x, r, h, hx => by
    rw [List.cons_append, parseL, if_neg (by simp [h p (by simp)]), parseL_stop q _ x r (fun y hy => h y (by simp [hy])) hx]

/-- What the call's own blocks hold between two rounds; where a round has left. -/
def PI (B : Nat) (W0 : World) (s : ByteArray) (pre : List Part) (W : World) : Prop :=
  ((∃ v, Boxed W (B + 3) 159 v ∧ W.ownsRow (B + 3) 3 1 v (ordsP pre).length ((ordsP pre).map (Value.int .i64)) ∧ True) ∧ Below (B + 3) W0 W) ∧
  (W.heap[B + 4]? = some (Obj.cells #[.string s] 9 (0, 0)) ∧ okP pre)
def PX (B : Nat) (w : World) (c : Code) (pre : List Part) (W : World) : Prop :=
  (c = .ret ∧ ∃ p0 x, pre = p0 ++ [x] ∧ okP p0 ∧ x.e ≠ 0 ∧ W.heap[B]? = some (Obj.cells #[.slice none 0 0] 159 (0, 0)) ∧ W.heap[B + 1]? = some (Obj.cells #[.int .i64 x.at_] 3 (0, 0)) ∧ W.heap[B + 2]? = some (Obj.cells #[.int .i64 x.e] 29 (0, 0))) ∧ Below B w W
theorem PI_own (B B₀ : Nat) (W0 : World) (s : ByteArray) (h : B + 3 ≤ W0.heap.size) (h' : B + 3 ≤ B₀) : OwnFrom B₀ (PI B W0 s) :=
  OwnFrom.and (OwnFrom.and (Own.from (holdsRow_own (B + 3) (B + 3) _ _ 1 (fun pre => (ordsP pre).length) (fun pre => (ordsP pre).map (Value.int .i64)) (fun _ _ => True)) _) (ownFrom_below h h'))
    (OwnFrom.and (blk_own B₀ (B + 4) (fun _ => #[.string s]) _ _) (ownFrom_pure _ _))
theorem PX_own (B B₀ : Nat) (w : World) (c : Code) (h : B ≤ w.heap.size) (h' : B ≤ B₀) : OwnFrom B₀ (PX B w c) := by
  intro pre W W' row hs hg hr
  obtain ⟨⟨hc, p0, x, hp, ho, hx, h0, h1, h2⟩, hb⟩ := hs
  exact ⟨⟨hc, p0, x, hp, ho, hx, blk_own B₀ B (fun (_ : Unit) => #[.slice none 0 0]) _ _ () W W' row h0 hg hr, blk_own B₀ (B + 1) (fun (_ : Unit) => #[.int .i64 x.at_]) _ _ () W W' row h1 hg hr, blk_own B₀ (B + 2) (fun (_ : Unit) => #[.int .i64 x.e]) _ _ () W W' row h2 hg hr⟩, ownFrom_below h h' () W W' row hb hg hr⟩

theorem px_mk {w W : World} {B₀ : Nat} {pre : List Part} {x : Part} (hok : okP pre) (hx : x.e ≠ 0) (hB : Below w.heap.size w W)
    (y0 : W.heap[w.heap.size]? = some (Obj.cells #[.slice none 0 0] 159 (0, 0))) (y1 : W.heap[w.heap.size + 1]? = some (Obj.cells #[.int .i64 0] 3 (0, 0))) (y2 : W.heap[w.heap.size + 2]? = some (Obj.cells #[.int .i64 0] 29 (0, 0))) :
    KeepsFrom B₀ W (((W.setCell ⟨w.heap.size, 0, none⟩ (.slice none 0 0)).setCell ⟨w.heap.size + 1, 0, none⟩ (.int .i64 x.at_)).setCell ⟨w.heap.size + 2, 0, none⟩ (.int .i64 x.e)).drew ∧
    PX w.heap.size w .ret (pre ++ [x]) (((W.setCell ⟨w.heap.size, 0, none⟩ (.slice none 0 0)).setCell ⟨w.heap.size + 1, 0, none⟩ (.int .i64 x.at_)).setCell ⟨w.heap.size + 2, 0, none⟩ (.int .i64 x.e)).drew := by
  have k := (((KeepsOthers.setCell W ⟨w.heap.size, 0, none⟩ (.slice none 0 0)).trans (KeepsOthers.setCell _ ⟨w.heap.size + 1, 0, none⟩ (.int .i64 x.at_))).trans (KeepsOthers.setCell _ ⟨w.heap.size + 2, 0, none⟩ (.int .i64 x.e))).from B₀
  refine ⟨⟨k.size, k.same⟩, ⟨rfl, pre, x, rfl, hok, hx, ?_, ?_, ?_⟩, (((hB.setCell (p := ⟨w.heap.size, 0, none⟩) (Nat.le_refl _) _).setCell (p := ⟨w.heap.size + 1, 0, none⟩) (by simp) _).setCell (p := ⟨w.heap.size + 2, 0, none⟩) (by simp) _).drew⟩
  · exact (Below.heap_setCell _ _ _ _ (by simp)).trans ((Below.heap_setCell _ _ _ _ (by simp)).trans (heap_setCell_at y0 _))
  · exact (Below.heap_setCell _ _ _ _ (by simp)).trans (heap_setCell_at ((Below.heap_setCell _ _ _ _ (by simp)).trans y1) _)
  · exact heap_setCell_at ((Below.heap_setCell _ _ _ _ (by simp)).trans ((Below.heap_setCell _ _ _ _ (by simp)).trans y2)) _

theorem flat_encI (l : List Int) : l.flatMap encI = l.map (Value.int .i64) := by
  induction l with
  | nil => rfl
  | cons x l ih => rw [List.flatMap_cons, ih]; rfl
theorem ordsS_ok {l : List UInt8} (h : okP (partsOf l)) : parseS l = (ordsP (partsOf l), 0, 0) := by
  unfold parseS; rw [parseL_ok _ _ h]; simp
theorem ordsS_stop {l : List UInt8} {p0 : List Part} {x : Part} (hp : p0 ++ [x] <+: partsOf l) (h : okP p0) (hx : x.e ≠ 0) : parseS l = ([], x.at_, x.e) := by
  obtain ⟨r, hr⟩ := hp
  unfold parseS
  rw [← hr, List.append_assoc, List.singleton_append, parseL_stop _ _ _ _ h hx]

/-- The results' cells, read; the blocks for deferred calls given back. -/
theorem parse_end {w X : World} {D : Nat} {v : Value} {a e : Int} {s : ByteArray} {fn : Func} {tmps : Array Value} (hfn : fn = Tryz.f97)
    (ht : tmps[2]?.getD undef = .pointer (some ⟨w.heap.size, 0, none⟩)) (ht3 : tmps[3]?.getD undef = .pointer (some ⟨w.heap.size + 1, 0, none⟩)) (ht4 : tmps[4]?.getD undef = .pointer (some ⟨w.heap.size + 2, 0, none⟩))
    (h0 : X.heap[w.heap.size]? = some (Obj.cells #[v] 159 (0, 0))) (h1 : X.heap[w.heap.size + 1]? = some (Obj.cells #[.int .i64 a] 3 (0, 0))) (h2 : X.heap[w.heap.size + 2]? = some (Obj.cells #[.int .i64 e] 29 (0, 0)))
    (hv : ∃ A n c, v = .slice A n c) (hD : w.heap.size + 5 ≤ D) (hK : X.heap[D]? = some (Obj.deferred (some []))) (hx : Below w.heap.size w X)
    (hr : Rd X 1 encI v (ordsS s.data.toList)) (hp : (parseS s.data.toList).2 = (a, e)) :
    LeavesIn Fence.wide 5 Tryz.prog fn tmps (fun e w' => parseRes s.data.toList e w w') [] FrameMode.returning (X.putObj D (.deferred none)) := by
  subst hfn
  obtain ⟨A, n, c, rfl⟩ := hv
  have hXD : Below w.heap.size w (X.putObj D (.deferred none)) := hx.trans ((Below.refl _ X).grown (grownBy_putObj' X D (.deferred none)) hx.size (fun k e => by cases e; omega))
  have e0 : (X.putObj D (.deferred none)).heap[w.heap.size]? = X.heap[w.heap.size]? := World.putObj_heap_other (by omega)
  have e1 : (X.putObj D (.deferred none)).heap[w.heap.size + 1]? = X.heap[w.heap.size + 1]? := World.putObj_heap_other (by omega)
  have e2 : (X.putObj D (.deferred none)).heap[w.heap.size + 2]? = X.heap[w.heap.size + 2]? := World.putObj_heap_other (by omega)
  have q0 := (cells_at (e0.trans h0)).1 0 _ rfl
  have q1 := (cells_at (e1.trans h1)).1 0 _ rfl
  have q2 := (cells_at (e2.trans h2)).1 0 _ rfl
  have hRd : Rd (X.putObj D (.deferred none)) 1 encI (.slice A n c) (ordsS s.data.toList) := by
    obtain ⟨hm, A', c', hv', hrd⟩ := hr
    refine ⟨hm, A', c', hv', fun h => ?_⟩
    obtain ⟨b, off, hA, hb, hc⟩ := hrd h
    have hbD : b ≠ D := by
      rintro rfl
      have := hc 0 h 0 _ rfl
      simp [World.cell?, hK] at this
    refine ⟨b, off, hA, by simpa using hb, fun j hj i u hu => ?_⟩
    rw [World.cell?_of_block (w := X) (World.putObj_heap_other hbD)]
    exact hc j hj i u hu
  generalize X.putObj D (.deferred none) = Y at *
  refine ⟨.tuple #[.slice A n c, .int .i64 a, .int .i64 e], ?_, _, by rw [hp], hRd, hXD⟩
  simp [results, Tryz.results97, go_sem, ht, ht3, ht4, q0, q1, q2]

set_option maxHeartbeats 8000000 in
set_option maxRecDepth 100000 in
theorem parse_in (s : ByteArray) (hs : s.size ≤ 9223372036854775000) (w : World) :
    CallsIn Fence.wide 5 Tryz.prog 97 #[.string s] w fun e w' => parseRes s.data.toList e w w' := by
  obtain ⟨i0, hi, hz0, hz1, hz2⟩ := info_parts info_int
  refine callsIn_of_wp_marks Tryz.func97 rfl trivial ?_ rfl
  simp only [Tryz.ntmps97, List.size_toArray, List.length_cons, List.length_nil, Nat.reduceAdd, Nat.reduceSub, Array.replicate_succ, Array.replicate_zero, List.push_toArray, List.append_toArray, List.nil_append, List.cons_append]
  gi_wp2_with (refine ⟨trivial, ?_⟩; gi_at_call 125; refine (parts_call _ _ _).mono ?_; rintro e w' ⟨rfl, rfl⟩)
  obtain ⟨W0, hW0⟩ : ∃ W0, ((((((w.alloc (.cells #[.slice none 0 0] 159)).alloc (.cells #[.int .i64 0] 3)).alloc (.cells #[.int .i64 0] 29)).alloc (.cells #[.slice none 0 0] 159)).alloc (.cells #[.string s] 9))) = W0 := ⟨_, rfl⟩
  have hsz : W0.heap.size = w.heap.size + 5 := by rw [← hW0]; simp
  have hX0 : Ext w W0 := by rw [← hW0]; exact (((((Ext.refl w).alloc _).alloc _).alloc _).alloc _).alloc _
  have b3 : W0.heap[w.heap.size + 3]? = some (Obj.cells #[.slice none 0 0] 159 (0, 0)) := by
    rw [← hW0]; exact (Below.heap_alloc _ _ _ (by simp)).trans (by have := heap_new (((w.alloc (.cells #[.slice none 0 0] 159)).alloc (.cells #[.int .i64 0] 3)).alloc (.cells #[.int .i64 0] 29)) (.cells #[.slice none 0 0] 159); simpa using this)
  have b4 : W0.heap[w.heap.size + 4]? = some (Obj.cells #[.string s] 9 (0, 0)) := by
    rw [← hW0]; have := heap_new ((((w.alloc (.cells #[.slice none 0 0] 159)).alloc (.cells #[.int .i64 0] 3)).alloc (.cells #[.int .i64 0] 29)).alloc (.cells #[.slice none 0 0] 159)) (.cells #[.string s] 9); simpa using this
  have z0 : W0.heap[w.heap.size]? = some (Obj.cells #[.slice none 0 0] 159 (0, 0)) := by
    rw [← hW0]; exact (Below.heap_alloc _ _ _ (by simp; omega)).trans ((Below.heap_alloc _ _ _ (by simp; omega)).trans ((Below.heap_alloc _ _ _ (by simp; omega)).trans ((Below.heap_alloc _ _ _ (by simp)).trans (heap_new w _))))
  have z1 : W0.heap[w.heap.size + 1]? = some (Obj.cells #[.int .i64 0] 3 (0, 0)) := by
    rw [← hW0]; exact (Below.heap_alloc _ _ _ (by simp; try omega)).trans ((Below.heap_alloc _ _ _ (by simp; try omega)).trans ((Below.heap_alloc _ _ _ (by simp)).trans (by have := heap_new (w.alloc (.cells #[.slice none 0 0] 159)) (.cells #[.int .i64 0] 3); simpa using this)))
  have z2 : W0.heap[w.heap.size + 2]? = some (Obj.cells #[.int .i64 0] 29 (0, 0)) := by
    rw [← hW0]; exact (Below.heap_alloc _ _ _ (by simp; try omega)).trans ((Below.heap_alloc _ _ _ (by simp)).trans (by have := heap_new ((w.alloc (.cells #[.slice none 0 0] 159)).alloc (.cells #[.int .i64 0] 3)) (.cells #[.int .i64 0] 29); simpa using this))
  rw [hW0]
  have H0 := Lib.hid hW0
  clear hW0
  refine wpIn_rangeFunc_ownH (n := 5) rfl (by omega) (gf := 141) (lb := #[.pointer (some ⟨w.heap.size + 4, 0, none⟩)]) rfl trivial (enters_of Tryz.func141 (by kernel_rfl) rfl)
    (parts_stops 4 (by omega) (w.heap.size + 4) s hs W0 (by omega) (cells_at b4 |>.1 0 _ rfl)) KpT.trans (KpT.putObj (by omega)) (Below.refl _ _) (fun _ => rfl)
    (PI w.heap.size W0 s) (PX w.heap.size w) (PI_own _ _ _ _ (by omega) (by omega)) (fun c => PX_own _ _ _ c (Nat.le_refl _) (by omega))
    ⟨⟨⟨_, b3, World.ownsRow_nil _ _ _ _, trivial⟩, Below.refl _ _⟩, b4, fun x hx => by cases hx⟩
    (fun x a' W => ∃ Bx, W0.heap.size ≤ Bx ∧ W.heap[Bx]? = some (Obj.cells #[.int .i64 x.ord, .int .i64 x.at_, .int .i64 x.e] 220 (0, 0)) ∧ a' = { tmps := #[.string s, undef, .pointer (some ⟨w.heap.size, 0, none⟩), .pointer (some ⟨w.heap.size + 1, 0, none⟩), .pointer (some ⟨w.heap.size + 2, 0, none⟩), .pointer (some ⟨w.heap.size + 3, 0, none⟩), .pointer (some ⟨Bx, 0, none⟩), .string s, .func (.func 141) #[] #[.pointer (some ⟨w.heap.size + 4, 0, none⟩)], encPart x, undef, undef, undef, undef, undef, undef, undef, undef, undef, undef, undef, undef, undef], defers := [] })
    (fun x a' _ X Y row hs hg hr => by obtain ⟨Bx, h1, h2, h3⟩ := hs; exact ⟨Bx, h1, blk_own _ Bx (fun (_ : Unit) => #[.int .i64 x.ord, .int .i64 x.at_, .int .i64 x.e]) _ _ () X Y row h2 hg hr, h3⟩)
    ?assign ?body ?done ?stop
  case assign =>
    rintro l pre x W K hI hK
    obtain ⟨⟨⟨v, hv, hrow, _⟩, hB⟩, hb4, hok⟩ := hI
    simp only [encPart]
    gi_wp2
    have hWs : W0.heap.size ≤ W.heap.size := hB.size
    exact hK _ _ ((KeepsOthers.alloc _ _).from _) (KpT.of_ext (by omega) ((Ext.refl W).alloc _)) ⟨⟨⟨v, hv.alloc _, hrow.alloc _, trivial⟩, hB.alloc (by omega) _⟩, (Below.heap_alloc _ _ _ (by omega)).trans hb4, hok⟩ ⟨W.heap.size, hWs, heap_new W _, rfl⟩
  case body =>
    rintro l pre x a' W hl ⟨r, hr⟩ hI ⟨Bx, hBx, bX, rfl⟩ hlt
    obtain ⟨⟨⟨v, hv, hrow, _⟩, hB⟩, hb4, hok⟩ := hI
    have cv := hv.cell
    have x0 := (cells_at bX).1 0 _ rfl
    have x1 := (cells_at bX).1 1 _ rfl
    have x2 := (cells_at bX).1 2 _ rfl
    by_cases he : x.e = 0
    · have heb : (x.e != 0) = false := by simp [he]
      have HE := Lib.hid he
      clear he
      gi_wp2_with (gi_at_builtin; refine wpListIn_append_own _ rfl _ _ 159 rfl (w.heap.size + 3) 3 i0 (.int .i64 0) 1 8 Tryz.underlying159 hi hz0 hz1 hz2 rfl (by decide) _ _ _ rfl (hrow.alloc _) ⟨W.heap.size, 0, none⟩ 1 1 [.int .i64 x.ord] rfl rfl (cell_one_new _ _ _) (by simp [Value.oneCell']) (by simp [ordsP, maxLen]; omega) (by simp [ordsP]; omega) (by have := hB.size; simp; omega) ?_; intro v' w1 hown' hgrow _; obtain ⟨g', cap', rfl⟩ := ownsRow_succ hown'; obtain ⟨hv1, hv2, hr2, hk2, hb2⟩ := hv.appended (by decide) hrow (by have := hB.size; omega) (Nat.le_refl _) hown' hgrow; have hc1 := hv1.cell; have hf1 := hv1.frozen)
      have hkb : KeepsFrom W0.heap.size W (w1.setCell ⟨w.heap.size + 3, 0, none⟩ (.slice (some ⟨g', 0, none⟩) ((ordsP pre).length + 1) cap')) := hk2.from _
      refine ⟨hkb, ⟨?_, ?_, ?_⟩, ⟨⟨_, hv2, ?_, trivial⟩, hB.trans hb2⟩, ?_, ?_⟩
      · rw [hb4]; exact blk_appended hrow hgrow (by decide) (by omega) hb4
      · exact hk2.size
      · intro b c f hbc
        refine blk_appended hrow hgrow (by decide) ?_ hbc
        rintro rfl
        rw [show W.heap[_]? = _ from hv] at hbc
        cases hbc
      · rw [ordsP_snoc]; simpa using hr2
      · exact blk_appended hrow hgrow (by decide) (by omega) hb4
      · intro y hy
        simp at hy
        rcases hy with hy | rfl
        · exact hok y hy
        · exact HE.out
    · have heb : (x.e != 0) = true := by simp [he]
      have HE := Lib.hid he
      clear he
      have y0 := (hB.block w.heap.size (by omega)).trans z0
      have y1 := (hB.block (w.heap.size + 1) (by omega)).trans z1
      have y2 := (hB.block (w.heap.size + 2) (by omega)).trans z2
      have c0 := (cells_at y0).1 0 _ rfl
      have c1 := (cells_at y1).1 0 _ rfl
      have c2 := (cells_at y2).1 0 _ rfl
      have f0 := (cells_at y0).2 0
      have f1 := (cells_at y1).2 0
      have f2 := (cells_at y2).2 0
      have Y0 := Lib.hid y0
      have Y1 := Lib.hid y1
      have Y2 := Lib.hid y2
      clear y0 y1 y2
      gi_wp2
      gi_region
      all_goals gi_wp2
      all_goals exact px_mk hok HE.out ((Ext.below hX0).trans (hB.mono (by omega))) Y0.out Y1.out Y2.out
  case done =>
    rintro D ys W hD rfl hI hK
    obtain ⟨⟨⟨v, hv, hrow, _⟩, hB⟩, hb4, hok⟩ := hI
    have cv := hv.cell
    have y0 := (hB.block w.heap.size (by omega)).trans z0
    have y1 := (hB.block (w.heap.size + 1) (by omega)).trans z1
    have y2 := (hB.block (w.heap.size + 2) (by omega)).trans z2
    have c0 := (cells_at y0).1 0 _ rfl
    have c1 := (cells_at y1).1 0 _ rfl
    have c2 := (cells_at y2).1 0 _ rfl
    have f0 := (cells_at y0).2 0
    have f1 := (cells_at y1).2 0
    have f2 := (cells_at y2).2 0
    obtain ⟨A, c, rfl⟩ : ∃ A c, v = .slice A (ordsP (partsOf s.data.toList)).length c := by
      rcases hrow.2 with ⟨rfl, h0⟩ | ⟨g, cap, cur, rfl, _⟩
      · exact ⟨none, 0, by rw [h0]⟩
      · exact ⟨_, cap, rfl⟩
    have hBD : Below w.heap.size w W := (Ext.below hX0).trans (hB.mono (by omega))
    have Y0 := Lib.hid y0
    have Y1 := Lib.hid y1
    have Y2 := Lib.hid y2
    have HW := Lib.hid hrow
    clear y0 y1 y2 hrow
    gi_wp2
    obtain ⟨X, hX⟩ : ∃ X, X = (((W.setCell ⟨w.heap.size, 0, none⟩ (.slice A (ordsP (partsOf s.data.toList)).length c)).setCell ⟨w.heap.size + 1, 0, none⟩ (.int .i64 0)).setCell ⟨w.heap.size + 1 + 1, 0, none⟩ (.int .i64 0)) := ⟨_, rfl⟩
    have hrow := HW.out
    have hr3 : X.ownsRow (w.heap.size + 3) 3 1 (.slice A (ordsP (partsOf s.data.toList)).length c) (ordsP (partsOf s.data.toList)).length ((ordsP (partsOf s.data.toList)).map (Value.int .i64)) := by
      rw [hX]
      exact ownsRow_setCell_below (ownsRow_setCell_below (ownsRow_setCell_below hrow (by simp) _) (by simp) _) (by simp) _
    have k0 : X.heap[w.heap.size]? = some (Obj.cells #[.slice A (ordsP (partsOf s.data.toList)).length c] 159 (0, 0)) := by
      rw [hX]; exact (Below.heap_setCell _ _ _ _ (by show w.heap.size ≠ w.heap.size + 1 + 1; omega)).trans ((Below.heap_setCell _ _ _ _ (by simp)).trans (heap_setCell_at Y0.out _))
    have k1 : X.heap[w.heap.size + 1]? = some (Obj.cells #[.int .i64 0] 3 (0, 0)) := by
      rw [hX]; exact (Below.heap_setCell _ _ _ _ (by simp)).trans (heap_setCell_at ((Below.heap_setCell _ _ _ _ (by simp)).trans Y1.out) _)
    have k2 : X.heap[w.heap.size + 2]? = some (Obj.cells #[.int .i64 0] 29 (0, 0)) := by
      rw [hX]; exact heap_setCell_at ((Below.heap_setCell _ _ _ _ (by simp)).trans ((Below.heap_setCell _ _ _ _ (by simp)).trans Y2.out)) _
    have kD : X.heap[D]? = some (Obj.deferred (some [])) := by
      rw [hX]; exact (Below.heap_setCell _ _ _ _ (by simp; omega)).trans ((Below.heap_setCell _ _ _ _ (by simp; omega)).trans ((Below.heap_setCell _ _ _ _ (by simp; omega)).trans hK))
    have kX : Below w.heap.size w X := by
      rw [hX]; exact (((hBD.setCell (p := ⟨w.heap.size, 0, none⟩) (Nat.le_refl _) _).setCell (p := ⟨w.heap.size + 1, 0, none⟩) (by simp) _).setCell (p := ⟨w.heap.size + 1 + 1, 0, none⟩) (by simp; omega) _)
    rw [← hX]
    clear hX
    refine ⟨by simp, .inl ⟨_, _, rfl, run_takeDeferred kD, ?_⟩⟩
    have hps := ordsS_ok hok
    refine parse_end rfl rfl rfl rfl k0 k1 k2 ⟨_, _, _, rfl⟩ (by omega) kD kX ?_ (by rw [hps])
    unfold ordsS; rw [hps]
    exact Rd.of_owns (e := 3) (base := w.heap.size + 3) (sz := 1) (enc := encI) (fun _ => rfl) (by rw [flat_encI]; exact hr3)
  case stop =>
    rintro D c pre W hD hpre hX hK
    obtain ⟨⟨rfl, p0, x, rfl, hok, hx, h0, h1, h2⟩, hB⟩ := hX
    have hps := ordsS_stop hpre hok hx
    gi_wp2
    refine ⟨by simp, .inl ⟨_, _, rfl, run_takeDeferred hK, ?_⟩⟩
    refine parse_end rfl rfl rfl rfl h0 h1 h2 ⟨_, _, _, rfl⟩ (by omega) hK hB ?_ (by rw [hps])
    unfold ordsS; rw [hps]
    exact Rd.nil _ _ _

def parsedAs (l : List UInt8) (e : Ending) (w w' : World) : Prop := parseRes l e w w'
theorem parse_any (s : ByteArray) (hs : s.size ≤ 9223372036854775000) (w : World) : Calls Tryz.prog 97 #[.string s] w fun e w' => parseRes s.data.toList e w w' :=
  callsIn_wide.1 (parse_in s hs w)
end Go.Proofs.YtehmgeodpjmfaaaGreatDoor
