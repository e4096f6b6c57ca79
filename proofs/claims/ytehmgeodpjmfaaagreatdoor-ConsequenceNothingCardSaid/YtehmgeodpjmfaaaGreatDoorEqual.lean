/- Equality of structs; consequence.Equal. -/
import Derived.DeepKeys
import Derived.Test.YtehmgeodpjmfaaaGreatDoorCmpPure
namespace Go.Proofs.YtehmgeodpjmfaaaGreatDoor
open Go.RowKit

def consV (c : ConsS) : Value := .agg #[.int .i64 c.kind, .string c.own, .int .i64 c.num, .int .i64 c.place, .int .i64 c.old.chan, .string c.old.target, .string c.old.text, .int .i64 c.old.user, .int .i64 c.oldAt, .int .i64 c.new.chan, .string c.new.target, .string c.new.text, .int .i64 c.new.user, .int .i64 c.newAt]
def SOk (s : ByteArray) : Prop := s.size ≤ 9223372036854775807
def OutOk (o : OutS) : Prop := I64 o.chan ∧ SOk o.target ∧ SOk o.text ∧ I64 o.user
def ConsOk (c : ConsS) : Prop := I64 c.kind ∧ SOk c.own ∧ I64 c.num ∧ I64 c.place ∧ OutOk c.old ∧ I64 c.oldAt ∧ OutOk c.new ∧ I64 c.newAt
def outK (o : OutS) : List Lit := [.int .i64 o.chan, .string o.target.data.toList, .string o.text.data.toList, .int .i64 o.user]
def consK (c : ConsS) : List Lit := [.int .i64 c.kind, .string c.own.data.toList, .int .i64 c.num, .int .i64 c.place] ++ (outK c.old ++ ([.int .i64 c.oldAt] ++ (outK c.new ++ [.int .i64 c.newAt])))
theorem ba_ext {a b : ByteArray} (h : a.data.toList = b.data.toList) : a = b := by
  obtain ⟨a⟩ := a; obtain ⟨b⟩ := b
  congr
  exact Array.toList_inj.1 h
theorem consK_inj {a b : ConsS} (h : consK a = consK b) : a = b := by
  obtain ⟨k1, o1, n1, p1, ⟨c1, t1, x1, u1⟩, a1, ⟨d1, g1, y1, v1⟩, b1⟩ := a
  obtain ⟨k2, o2, n2, p2, ⟨c2, t2, x2, u2⟩, a2, ⟨d2, g2, y2, v2⟩, b2⟩ := b
  simp only [consK, outK, List.cons_append, List.nil_append, List.cons.injEq, Lit.int.injEq, Lit.string.injEq, true_and, and_true] at h
  obtain ⟨rfl, h1, rfl, rfl, rfl, h2, h3, rfl, rfl, rfl, h4, h5, rfl, rfl⟩ := h
  rw [ba_ext h1, ba_ext h2, ba_ext h3, ba_ext h4, ba_ext h5]
theorem kl_output (d : Nat) (o : OutS) (h : OutOk o) : Tryz.prog.keyLits (d + 1 + 1) 35 [.int .i64 o.chan, .string o.target, .string o.text, .int .i64 o.user] = some (outK o) := by
  have u1 := Tryz.underlying35
  have u2 := Tryz.underlying3
  have u4 := Tryz.underlying9
  have c2 : Tryz.prog.cellsOf 3 = 1 := by kernel_rfl
  have c3 : Tryz.prog.cellsOf 35 = 4 := by kernel_rfl
  have c4 : Tryz.prog.cellsOf 9 = 1 := by kernel_rfl
  obtain ⟨w1, l1, l2, w2⟩ := h
  have w1 := wf_i64 w1
  have w2 := wf_i64 w2
  have l1 : o.target.size ≤ maxLen := l1
  have l2 : o.text.size ≤ maxLen := l2
  generalize Tryz.prog = P at *
  rw [kl_struct (d + 1) _ _ u1 (by rw [c3]; rfl) (by decide +kernel)]
  have e5 : (([.int .i64 o.chan, .string o.target, .string o.text, .int .i64 o.user] : List Value).drop 0).take (P.cellsOf 3) = [.int .i64 o.chan] := by rw [c2]; rfl
  have e6 : (([.int .i64 o.chan, .string o.target, .string o.text, .int .i64 o.user] : List Value).drop 1).take (P.cellsOf 9) = [.string o.target] := by rw [c4]; rfl
  have e7 : (([.int .i64 o.chan, .string o.target, .string o.text, .int .i64 o.user] : List Value).drop 2).take (P.cellsOf 9) = [.string o.text] := by rw [c4]; rfl
  have e8 : (([.int .i64 o.chan, .string o.target, .string o.text, .int .i64 o.user] : List Value).drop 3).take (P.cellsOf 3) = [.int .i64 o.user] := by rw [c2]; rfl
  simp only [List.mapM_cons, List.mapM_nil, e5, e6, e7, e8, kl_str _ _ u4 l1, kl_str _ _ u4 l2, kl_int _ _ u2 w1, kl_int _ _ u2 w2]
  rfl
theorem kl_cons (c : ConsS) (h : ConsOk c) : Tryz.prog.keyLits 4 37 (consV c).cells.toList = some (consK c) := by
  have u := Tryz.underlying37
  have u2 := Tryz.underlying3
  have u3 := Tryz.underlying33
  have c0 : Tryz.prog.cellsOf 37 = 14 := by kernel_rfl
  have c1 : Tryz.prog.cellsOf 33 = 1 := by kernel_rfl
  have c2 : Tryz.prog.cellsOf 3 = 1 := by kernel_rfl
  have c3 : Tryz.prog.cellsOf 35 = 4 := by kernel_rfl
  obtain ⟨w1, l1, w2, w3, h1, w4, h2, w5⟩ := h
  have w1 := wf_i64 w1
  have w2 := wf_i64 w2
  have w3 := wf_i64 w3
  have w4 := wf_i64 w4
  have w5 := wf_i64 w5
  have l1 : c.own.size ≤ maxLen := l1
  have k1 := kl_output 1 c.old h1
  have k2 := kl_output 1 c.new h2
  generalize Tryz.prog = P at *
  rw [kl_struct 3 _ _ u (by rw [c0]; rfl) (by decide +kernel)]
  have e1 : ((consV c).cells.toList.drop 0).take (P.cellsOf 3) = [.int .i64 c.kind] := by rw [c2]; rfl
  have e2 : ((consV c).cells.toList.drop 1).take (P.cellsOf 33) = [.string c.own] := by rw [c1]; rfl
  have e3 : ((consV c).cells.toList.drop 2).take (P.cellsOf 3) = [.int .i64 c.num] := by rw [c2]; rfl
  have e4 : ((consV c).cells.toList.drop 3).take (P.cellsOf 3) = [.int .i64 c.place] := by rw [c2]; rfl
  have e5 : ((consV c).cells.toList.drop 4).take (P.cellsOf 35) = [.int .i64 c.old.chan, .string c.old.target, .string c.old.text, .int .i64 c.old.user] := by rw [c3]; rfl
  have e6 : ((consV c).cells.toList.drop 8).take (P.cellsOf 3) = [.int .i64 c.oldAt] := by rw [c2]; rfl
  have e7 : ((consV c).cells.toList.drop 9).take (P.cellsOf 35) = [.int .i64 c.new.chan, .string c.new.target, .string c.new.text, .int .i64 c.new.user] := by rw [c3]; rfl
  have e8 : ((consV c).cells.toList.drop 13).take (P.cellsOf 3) = [.int .i64 c.newAt] := by rw [c2]; rfl
  simp only [List.mapM_cons, List.mapM_nil, e1, e2, e3, e4, e5, e6, e7, e8, kl_str _ _ u3 l1, kl_int _ _ u2 w1, kl_int _ _ u2 w2, kl_int _ _ u2 w3, kl_int _ _ u2 w4, kl_int _ _ u2 w5, k1, k2]
  rfl
theorem formed_cons (c : ConsS) : (consV c).formed Tryz.prog 37 = true := by
  have u := Tryz.underlying37
  have c0 : Tryz.prog.cellsOf 37 = 14 := by kernel_rfl
  simp [Value.formed, consV, u, c0]
theorem eql_deep {P : Program} {t : TypeId} (m : Nat) (hm : m ≤ 10000) (hk : P.keyTypeAt m t = true) (w : World) (D D' : Nat) (x y : Value) (lx ly : List Lit) (fx : x.formed P t = true) (fy : y.formed P t = true) (hx : P.keyLits D t x.cells.toList = some lx) (hy : P.keyLits D' t y.cells.toList = some ly) :
    ∃ r : Bool, (Op.equalIn 10000 t x y).run P w = .ok r w ∧ (r = true ↔ lx = ly) := by
  obtain ⟨r, hr, hi⟩ := run_equalIn_deep (P := P) (10000 - m) m t hk w D D' x y lx ly fx fy hx hy
  exact ⟨r, by rw [show 10000 - m + m = 10000 by omega] at hr; exact hr, hi⟩
theorem eql_cons (a b : ConsS) (ha : ConsOk a) (hb : ConsOk b) (w : World) : (Op.equalIn 10000 37 (consV a) (consV b)).run Tryz.prog w = .ok (decide (a = b)) w := by
  obtain ⟨r, hr, hi⟩ := eql_deep (P := Tryz.prog) (t := 37) 100 (by decide) (by kernel_rfl) w 4 4 (consV a) (consV b) _ _ (formed_cons a) (formed_cons b) (kl_cons a ha) (kl_cons b hb)
  have h : r = decide (a = b) := by
    by_cases e : a = b
    · rw [decide_eq_true e]; exact hi.2 (by rw [e])
    · rw [decide_eq_false e]
      cases r with
      | false => rfl
      | true => exact absurd (consK_inj (hi.1 rfl)) e
  rw [← h]; exact hr
set_option maxRecDepth 100000 in
theorem equal_any (a b : ConsS) (ha : ConsOk a) (hb : ConsOk b) (w : World) : Calls Tryz.prog 16 #[consV a, consV b] w fun e w' => e = .returned (.bool (decide (a = b))) ∧ Ext w w' := by
  have he := fun W => eql_cons a b ha hb W
  generalize decide (a = b) = r at he ⊢
  clear ha hb
  obtain ⟨k1, o1, n1, p1, ⟨c1, t1, x1, u1⟩, a1, ⟨d1, g1, y1, v1⟩, b1⟩ := a
  obtain ⟨k2, o2, n2, p2, ⟨c2, t2, x2, u2⟩, a2, ⟨d2, g2, y2, v2⟩, b2⟩ := b
  simp only [consV] at he ⊢
  go_enter Tryz.func16, Tryz.ntmps16
  go_wp2_with fail
  go_ret
  exact ⟨rfl, ((Ext.refl w).alloc _).alloc _⟩
end Go.Proofs.YtehmgeodpjmfaaaGreatDoor
