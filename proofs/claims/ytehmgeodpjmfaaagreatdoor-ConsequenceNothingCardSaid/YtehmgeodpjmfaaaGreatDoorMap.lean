/- Maps that the call makes, keyed by structs, as functions. -/
import Derived.Maps.OwnSet
import Derived.Maps.Views
import Derived.DeepKeys4
import Derived.Test.YtehmgeodpjmfaaaGreatDoorGet
namespace Go.Proofs.YtehmgeodpjmfaaaGreatDoor
open Go.RowKit
open Go.Maps (Keyed)

def rawR (v : Value) : Option (DataW Value × List MemPlace) := some (.held v, [])
/-- Block b is a map of at most n entries that holds, key by key, what f says. -/
def MapAt {α : Type} (w : World) (k : TypeId) (kl : α → Lit) (Ok : α → Prop) (z : Value) (b n : Nat) (f : α → Option Value) : Prop :=
  ∃ D : DataW Value, w.ownsMap Tryz.prog k rawR b n D ∧ ∀ x, Ok x → Maps.has D (kl x) = (f x).isSome ∧ D.atKey (kl x) (.held z) = .held ((f x).getD z)

def upd {α β : Type} [DecidableEq α] (f : α → Option β) (x : α) (v : β) : α → Option β := fun y => if y = x then some v else f y
theorem upd_same {α β : Type} [DecidableEq α] (f : α → Option β) (x : α) (v : β) : upd f x v x = some v := if_pos rfl
theorem upd_other {α β : Type} [DecidableEq α] {f : α → Option β} {x y : α} {v : β} (h : y ≠ x) : upd f x v y = f y := if_neg h

section
variable {α : Type} {w : World} {k t e : TypeId} {kl : α → Lit} {Ok : α → Prop} {z : Value} {b n : Nat} {f : α → Option Value} {ek : α → Value}

theorem MapAt.made (w : World) : MapAt (w.alloc (.map #[] 0)) k kl Ok z w.heap.size 0 (fun _ => none) :=
  ⟨_, World.ownsMap_made w _ _ _, fun _x _ => ⟨rfl, rfl⟩⟩
theorem MapAt.ext {w' : World} (h : MapAt w k kl Ok z b n f) (hx : Ext w w') : MapAt w' k kl Ok z b n f := by
  obtain ⟨D, h1, h2⟩ := h
  exact ⟨D, h1.kept (grownBy_of_ext hx) (by simp), h2⟩
theorem MapAt.kept {w' : World} {row : Option Nat} (h : MapAt w k kl Ok z b n f) (hx : w.grownBy w' row) (hne : some b ≠ row) : MapAt w' k kl Ok z b n f := by
  obtain ⟨D, h1, h2⟩ := h
  exact ⟨D, h1.kept hx hne, h2⟩
theorem MapAt.mono (h : MapAt w k kl Ok z b n f) {n' : Nat} (hn : n ≤ n') : MapAt w k kl Ok z b n' f := by
  obtain ⟨D, h1, h2⟩ := h
  exact ⟨D, h1.mono hn, h2⟩
theorem MapAt.lt (h : MapAt w k kl Ok z b n f) : b < w.heap.size := by
  obtain ⟨D, h1, _⟩ := h
  exact h1.lt
theorem MapAt.congr (h : MapAt w k kl Ok z b n f) {g : α → Option Value} (hg : ∀ x, Ok x → f x = g x) : MapAt w k kl Ok z b n g := by
  obtain ⟨D, h1, h2⟩ := h
  exact ⟨D, h1, fun x hx => by rw [← hg x hx]; exact h2 x hx⟩
theorem MapAt.look (h : MapAt w k kl Ok z b n f) (K : Keyed Tryz.prog k) (ht : Tryz.prog.underlying t = some (.map k e)) (hz : (zeroValue e).run Tryz.prog w = .ok z w) (hk : ∀ x, Ok x → keyOf Tryz.prog k (ek x) = some (kl x)) (x : α) (hx : Ok x) :
    (Instr.lookup t (.map (some b)) (ek x) false).run Tryz.prog w = .ok ((f x).getD z) w := by
  obtain ⟨D, h1, h2⟩ := h
  obtain ⟨v, ps, hr, hv⟩ := h1.lookup K ht hz (zd := .held z) (zp := []) rfl (hk x hx)
  rw [(h2 x hx).2] at hv
  simp only [rawR, Option.some.injEq, Prod.mk.injEq, DataW.held.injEq] at hv
  rw [hr, hv.1]
theorem MapAt.look_ok (h : MapAt w k kl Ok z b n f) (K : Keyed Tryz.prog k) (ht : Tryz.prog.underlying t = some (.map k e)) (hz : (zeroValue e).run Tryz.prog w = .ok z w) (hk : ∀ x, Ok x → keyOf Tryz.prog k (ek x) = some (kl x)) (x : α) (hx : Ok x) :
    (Instr.lookup t (.map (some b)) (ek x) true).run Tryz.prog w = .ok (.tuple #[(f x).getD z, .bool (f x).isSome]) w := by
  obtain ⟨D, h1, h2⟩ := h
  obtain ⟨v, ps, hr, hv⟩ := h1.look_ok K ht hz (zd := .held z) (zp := []) rfl (hk x hx)
  rw [(h2 x hx).2] at hv
  simp only [rawR, Option.some.injEq, Prod.mk.injEq, DataW.held.injEq] at hv
  rw [hr, hv.1, (h2 x hx).1]
theorem MapAt.store [DecidableEq α] (h : MapAt w k kl Ok z b n f) (K : Keyed Tryz.prog k) (ht : Tryz.prog.underlying t = some (.map k e)) (hk : ∀ x, Ok x → keyOf Tryz.prog k (ek x) = some (kl x)) (hinj : ∀ x y, Ok x → Ok y → kl x = kl y → x = y) (hn : n < maxLen) (x : α) (hx : Ok x) (v : Value) :
    ∃ w', (Instr.mapUpdate t (.map (some b)) (ek x) v).run Tryz.prog w = .ok () w' ∧ MapAt w' k kl Ok z b (n + 1) (upd f x v) ∧ w.grownBy w' (some b) := by
  obtain ⟨D, h1, h2⟩ := h
  obtain ⟨w', hr, ho, hg⟩ := h1.update K ht hn (d := .held v) (ps := []) (hk x hx) rfl
  refine ⟨w', hr, ⟨_, ho, fun y hy => ?_⟩, hg⟩
  have hD : Maps.IsMap D := by
    obtain ⟨es, clock, _, _, _, rfl⟩ := h1
    exact ⟨_, rfl⟩
  have hkx := K.key (hk x hx)
  by_cases e : y = x
  · subst e
    rw [upd_same]
    exact ⟨Maps.has_put_same hD hkx _, Maps.atKey_put_same hD hkx _ _⟩
  · rw [upd_other e]
    have hne : kl y ≠ kl x := fun h => e (hinj y x hy hx h)
    rw [Maps.has_put_other hne, Maps.atKey_put_other hne]
    exact h2 y hy
/-- 'm[y] = v' at the operation, for the walk. -/
theorem wpList_mapStore [DecidableEq α] {ops : Array Oper} {rest : List Oper} {o : Oper} {a : Act} {Q : Exit → Act → World → Prop} (w : World) (hgd : o.guard = none) (mo xo vo : Operand) (t : TypeId) (hop : o.op = Op.mapUpdate t mo xo vo)
    (K : Keyed Tryz.prog k) (ht : Tryz.prog.underlying t = some (.map k e)) (hk : ∀ x, Ok x → keyOf Tryz.prog k (ek x) = some (kl x)) (hinj : ∀ x y, Ok x → Ok y → kl x = kl y → x = y) (hm : a.eval mo = .map (some b))
    (h : MapAt w k kl Ok z b n f) (hn : n < maxLen) (x : α) (hx : Ok x) (hxo : a.eval xo = ek x) (v : Value) (hv : a.eval vo = v)
    (hK : ∀ w', MapAt w' k kl Ok z b (n + 1) (upd f x v) → w.grownBy w' (some b) → wpList Tryz.prog ops Q rest (a.put o.dst undef) w') : wpList Tryz.prog ops Q (o :: rest) a w := by
  refine wpList_plain hgd fun K' hK' => ?_
  obtain ⟨w', hrun, r1, r2⟩ := h.store K ht hk hinj hn x hx v
  unfold Oper.wp
  simp [execOp, hop, hm, hxo, hv, hrun, Result.andThen]
  exact hK' _ _ (hK w' r1 r2)
end

structure SlotS where
  own : ByteArray
  num : Int
  deriving DecidableEq
def slotV (s : SlotS) : Value := .agg #[.string s.own, .int .i64 s.num]
def entV (e : EntS) : Value := .agg #[.string e.own, .int .i64 e.num, .int .i64 e.tick, .int .i64 e.out.chan, .string e.out.target, .string e.out.text, .int .i64 e.out.user]
def I64 (n : Int) : Prop := -9223372036854775808 ≤ n ∧ n ≤ 9223372036854775807
def SlotOk (s : SlotS) : Prop := s.own.size ≤ 1000000000 ∧ I64 s.num
def EntOk (e : EntS) : Prop := e.own.size ≤ 1000000000 ∧ I64 e.num ∧ I64 e.tick ∧ I64 e.out.chan ∧ e.out.target.size ≤ 1000000000 ∧ e.out.text.size ≤ 1000000000 ∧ I64 e.out.user
theorem wf_i64 {n : Int} (h : I64 n) : (Lit.int .i64 n).wf = true := by
  obtain ⟨h1, h2⟩ := h
  simp [Lit.wf, IntKind.min, IntKind.max, IntKind.signed, IntKind.bits]
  omega
def slotL (s : SlotS) : Lit := .string (keyBytes [.string s.own.data.toList, .int .i64 s.num])
theorem kl_str {P : Program} {t : TypeId} (d : Nat) (s : ByteArray) (hu : P.underlying t = some .string) (hs : s.size ≤ maxLen) : P.keyLits (d + 1) t [.string s] = some [.string s.data.toList] := by
  simp [Program.keyLits, hu, hs]
theorem kl_int {P : Program} {t : TypeId} (d : Nat) (n : Int) (hu : P.underlying t = some (.int .i64)) (hs : (Lit.int .i64 n).wf = true) : P.keyLits (d + 1) t [.int .i64 n] = some [.int .i64 n] := by
  simp [Program.keyLits, hu, hs]
theorem kl_struct {P : Program} {t : TypeId} (d : Nat) (cs : List Value) (fs : Array Field) (hu : P.underlying t = some (.struct fs)) (hc : cs.length = P.cellsOf t) (hn : fs.all (·.name != "_") = true) :
    P.keyLits (d + 1) t cs = (fs.toList.mapM fun f => P.keyLits d f.type ((cs.drop f.offset).take (P.cellsOf f.type))).map List.flatten := by
  simp only [Program.keyLits, hu]
  rw [if_pos ⟨hc, hn⟩]
theorem size3 : ∃ m, Tryz.prog.types.size = m + 1 + 1 + 1 := ⟨_, (by kernel_rfl : Tryz.prog.types.size = (Tryz.prog.types.size - 3) + 1 + 1 + 1)⟩
theorem keyOf_slot (s : SlotS) (h : SlotOk s) : keyOf Tryz.prog 95 (slotV s) = some (slotL s) := by
  have u := Tryz.underlying95
  have u2 := Tryz.underlying3
  have u3 := Tryz.underlying33
  have hkt : Tryz.prog.keyType 95 = true := by kernel_rfl
  have c0 : Tryz.prog.cellsOf 95 = 2 := by kernel_rfl
  have c1 : Tryz.prog.cellsOf 33 = 1 := by kernel_rfl
  have c2 : Tryz.prog.cellsOf 3 = 1 := by kernel_rfl
  have hw := wf_i64 h.2
  have hl : s.own.size ≤ maxLen := by unfold maxLen; have := h.1; omega
  have hm := size3
  generalize Tryz.prog = P at *
  obtain ⟨m, hm⟩ := hm
  have hf : (slotV s).formed P 95 = true := by simp [Value.formed, slotV, u, c0]
  unfold keyOf
  simp only [u]
  rw [hkt, hf, if_pos (by rfl), hm, kl_struct (m + 1 + 1 + 1) _ _ u (by rw [c0]; rfl) (by decide +kernel)]
  have e1 : ((slotV s).cells.toList.drop 0).take (P.cellsOf 33) = [.string s.own] := by rw [c1]; rfl
  have e2 : ((slotV s).cells.toList.drop 1).take (P.cellsOf 3) = [.int .i64 s.num] := by rw [c2]; rfl
  simp only [List.mapM_cons, List.mapM_nil, e1, e2, kl_str _ _ u3 hl, kl_int _ _ u2 hw]
  rfl
def entL (e : EntS) : Lit := .string (keyBytes [.string e.own.data.toList, .int .i64 e.num, .int .i64 e.tick, .int .i64 e.out.chan, .string e.out.target.data.toList, .string e.out.text.data.toList, .int .i64 e.out.user])
theorem keyOf_ent (e : EntS) (h : EntOk e) : keyOf Tryz.prog 41 (entV e) = some (entL e) := by
  have u := Tryz.underlying41
  have u1 := Tryz.underlying35
  have u2 := Tryz.underlying3
  have u3 := Tryz.underlying33
  have u4 := Tryz.underlying9
  have hkt : Tryz.prog.keyType 41 = true := by kernel_rfl
  have c0 : Tryz.prog.cellsOf 41 = 7 := by kernel_rfl
  have c1 : Tryz.prog.cellsOf 33 = 1 := by kernel_rfl
  have c2 : Tryz.prog.cellsOf 3 = 1 := by kernel_rfl
  have c3 : Tryz.prog.cellsOf 35 = 4 := by kernel_rfl
  have c4 : Tryz.prog.cellsOf 9 = 1 := by kernel_rfl
  obtain ⟨l1, w1, w2, w3, l2, l3, w4⟩ := h
  have w1 := wf_i64 w1
  have w2 := wf_i64 w2
  have w3 := wf_i64 w3
  have w4 := wf_i64 w4
  have l1 : e.own.size ≤ maxLen := by unfold maxLen; omega
  have l2 : e.out.target.size ≤ maxLen := by unfold maxLen; omega
  have l3 : e.out.text.size ≤ maxLen := by unfold maxLen; omega
  have hm := size3
  generalize Tryz.prog = P at *
  obtain ⟨m, hm⟩ := hm
  have hf : (entV e).formed P 41 = true := by simp [Value.formed, entV, u, c0]
  unfold keyOf
  simp only [u]
  rw [hkt, hf, if_pos (by rfl), hm, kl_struct (m + 1 + 1 + 1) _ _ u (by rw [c0]; rfl) (by decide +kernel)]
  have e1 : ((entV e).cells.toList.drop 0).take (P.cellsOf 33) = [.string e.own] := by rw [c1]; rfl
  have e2 : ((entV e).cells.toList.drop 1).take (P.cellsOf 3) = [.int .i64 e.num] := by rw [c2]; rfl
  have e3 : ((entV e).cells.toList.drop 2).take (P.cellsOf 3) = [.int .i64 e.tick] := by rw [c2]; rfl
  have e4 : ((entV e).cells.toList.drop 3).take (P.cellsOf 35) = [.int .i64 e.out.chan, .string e.out.target, .string e.out.text, .int .i64 e.out.user] := by rw [c3]; rfl
  have k4 := kl_struct (m + 1 + 1) [.int .i64 e.out.chan, .string e.out.target, .string e.out.text, .int .i64 e.out.user] _ u1 (by rw [c3]; rfl) (by decide +kernel)
  have e5 : (([.int .i64 e.out.chan, .string e.out.target, .string e.out.text, .int .i64 e.out.user] : List Value).drop 0).take (P.cellsOf 3) = [.int .i64 e.out.chan] := by rw [c2]; rfl
  have e6 : (([.int .i64 e.out.chan, .string e.out.target, .string e.out.text, .int .i64 e.out.user] : List Value).drop 1).take (P.cellsOf 9) = [.string e.out.target] := by rw [c4]; rfl
  have e7 : (([.int .i64 e.out.chan, .string e.out.target, .string e.out.text, .int .i64 e.out.user] : List Value).drop 2).take (P.cellsOf 9) = [.string e.out.text] := by rw [c4]; rfl
  have e8 : (([.int .i64 e.out.chan, .string e.out.target, .string e.out.text, .int .i64 e.out.user] : List Value).drop 3).take (P.cellsOf 3) = [.int .i64 e.out.user] := by rw [c2]; rfl
  simp only [List.mapM_cons, List.mapM_nil, e5, e6, e7, e8, kl_str _ _ u4 l2, kl_str _ _ u4 l3, kl_int _ _ u2 w3, kl_int _ _ u2 w4] at k4
  simp only [List.mapM_cons, List.mapM_nil, e1, e2, e3, e4, kl_str _ _ u3 l1, kl_int _ _ u2 w1, kl_int _ _ u2 w2, k4]
  rfl
theorem laid_out : laidOutB Tryz.prog = true := by kernel_rfl
theorem keyed_slot : Keyed Tryz.prog 95 := Keyed.of_law (deep_law_laid laid_out (m := 100) (by decide) (of_decide_eq_true (by kernel_rfl)) (by kernel_rfl) (by rw [Tryz.underlying95]))
theorem keyed_ent : Keyed Tryz.prog 41 := Keyed.of_law (deep_law_laid laid_out (m := 100) (by decide) (of_decide_eq_true (by kernel_rfl)) (by kernel_rfl) (by rw [Tryz.underlying41]))
theorem slotL_inj (x y : SlotS) (hx : SlotOk x) (hy : SlotOk y) (h : slotL x = slotL y) : x = y := by
  have := keyed_slot.inj (keyOf_slot x hx) (by rw [h]; exact keyOf_slot y hy)
  obtain ⟨a, b⟩ := x
  obtain ⟨c, d⟩ := y
  simp [slotV] at this
  obtain ⟨rfl, rfl⟩ := this
  rfl
theorem entL_inj (x y : EntS) (hx : EntOk x) (hy : EntOk y) (h : entL x = entL y) : x = y := by
  have := keyed_ent.inj (keyOf_ent x hx) (by rw [h]; exact keyOf_ent y hy)
  obtain ⟨a, b, c, ⟨d, e, f, g⟩⟩ := x
  obtain ⟨a', b', c', ⟨d', e', f', g'⟩⟩ := y
  simp [entV] at this
  obtain ⟨rfl, rfl, rfl, rfl, rfl, rfl, rfl⟩ := this
  rfl
end Go.Proofs.YtehmgeodpjmfaaaGreatDoor
