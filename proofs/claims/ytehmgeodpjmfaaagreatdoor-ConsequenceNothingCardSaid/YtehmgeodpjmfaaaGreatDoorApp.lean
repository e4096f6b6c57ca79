/- append of a slice that reads as a list, nil let in, onto a row of the call's own. No program. -/
import Derived.Maps.AppendAt
import Derived.Deep.Upon
import Derived.Laws.OwnMore
import Derived.Test.YtehmgeodpjmfaaaGreatDoorBase
namespace Go.Proofs.YtehmgeodpjmfaaaGreatDoor
open Go.RowKit

theorem flat_len {α : Type} {sz : Nat} {enc : α → List Value} (he : ∀ x, (enc x).length = sz) (l : List α) : (l.flatMap enc).length = l.length * sz := by
  induction l with
  | nil => simp
  | cons x l ih => rw [List.flatMap_cons, List.length_append, he, ih, List.length_cons, Nat.succ_mul, Nat.add_comm]
theorem addr_add (b off j : Nat) : (⟨b, off, none⟩ : Addr).add j = ⟨b, off + j, none⟩ := by unfold Addr.add; split <;> simp_all
theorem Rd.cells {α : Type} {w : World} {sz : Nat} {enc : α → List Value} (he : ∀ x, (enc x).length = sz) {v : Value} {l : List α} (h : Rd w sz enc v l) (hl : 0 < l.length) :
    ∃ b off c, v = .slice (some ⟨b, off, none⟩) l.length c ∧ b < w.heap.size ∧ ∀ j u, (l.flatMap enc)[j]? = some u → w.cell? ((⟨b, off, none⟩ : Addr).add j) = some u := by
  obtain ⟨_, A, c, rfl, hr⟩ := h
  obtain ⟨b, off, rfl, hb, hc⟩ := hr hl
  refine ⟨b, off, c, rfl, hb, fun j u hu => ?_⟩
  have hj : j < l.length * sz := by
    have := (List.getElem?_eq_some_iff.1 hu).1
    rwa [flat_len he] at this
  have h0 : 0 < sz := by
    rcases Nat.eq_zero_or_pos sz with h0 | h0
    · rw [h0] at hj; omega
    · exact h0
  have hq : j / sz < l.length := by rw [Nat.div_lt_iff_lt_mul h0]; exact hj
  have hd : j / sz * sz + j % sz = j := Nat.div_add_mod' j sz
  have := flat_get enc he l (j / sz) (j % sz) hq (Nat.mod_lt _ h0)
  rw [hd] at this
  rw [this] at hu
  have := hc _ hq _ _ hu
  rw [addr_add, show off + j = off + j / sz * sz + j % sz by omega]
  exact this

theorem src_zero {P : Program} {sz : Nat} {t e : TypeId} (ht : P.underlying t = some (.slice e)) (A : Option Addr) (c : Nat) (w : World) : Src P sz t (.slice A 0 c) 0 [] w := by
  cases A with
  | some a => exact Src.ofSlice w ht a 0 c [] (by simp) (fun j u hu => by simp at hu) (by simp)
  | none => exact ⟨.inl ⟨e, ht⟩, fun w' => by simp [Builtin.lenOf], by simp [Builtin.firstCells], by simp [Builtin.firstCells], by simp, by simp⟩

theorem run_append_rd {P : Program} (w : World) (base : Nat) (t ty e : TypeId) (i : TypeInfo) (z : Value) (sz bytes : Nat) (ht : P.underlying t = some (.slice e)) (hi : P.info? e = some i) (hz : i.zero = some z)
    (hsize : i.size = sz) (hby : i.bytes = bytes) (hzs : z.cells.size = sz) (hsz : 0 < sz)
    (v : Value) (n : Nat) (xs : List Value) (hown : w.ownsRow base e sz v n xs) {α : Type} (enc : α → List Value) (he : ∀ x, (enc x).length = sz) (hone : ∀ x, ∀ u ∈ enc x, u.oneCell' = true)
    (x : Value) (l : List α) (hx : Rd w sz enc x l) (h63 : n + l.length ≤ maxLen) (hbytes : (n + l.length) * bytes ≤ 140737488355328) (hbase : base ≤ w.heap.size) :
    ∃ v' w', (Builtin.append_ #[t, t] ty #[v, x]).run P w = .ok v' w' ∧ w'.ownsRow base e sz v' (n + l.length) (xs ++ l.flatMap enc) ∧ w.grownBy w' v.ownBlock ∧ (v'.ownBlock = v.ownBlock ∨ v'.ownBlock = some w.heap.size) := by
  rcases Nat.eq_zero_or_pos l.length with h0 | h0
  · obtain rfl : l = [] := List.length_eq_zero_iff.1 h0
    obtain ⟨_, A, c, rfl, _⟩ := hx
    have hv : ∃ b k, v = .slice b n k ∧ n ≤ k := by
      rcases hown.2 with ⟨rfl, rfl⟩ | ⟨g, cap, cur, rfl, _, _, hk, _⟩
      · exact ⟨none, 0, rfl, Nat.le_refl _⟩
      · exact ⟨_, cap, rfl, hk⟩
    obtain ⟨b, k, rfl, hk⟩ := hv
    refine ⟨_, w, run_append_nothing w t t ty e i ht hi b n k hk _ (src_zero ht A c w), by simpa using hown, World.grownBy.refl w _, .inl rfl⟩
  · obtain ⟨b, off, c, rfl, _, hc⟩ := hx.cells he h0
    obtain ⟨v', w', hr, h2, h3, _, h5⟩ := run_append_own_at (P := P) w base t ty e i z sz bytes ht hi hz hsize hby hzs hsz v n xs hown ⟨b, off, none⟩ l.length c (l.flatMap enc) (flat_len he l) hc (fun u hu => by
      obtain ⟨x, _, hx⟩ := List.mem_flatMap.1 hu
      exact hone x u hx) h63 hbytes hbase
    exact ⟨v', w', hr, h2, h3, h5⟩
theorem wpList_append_rd {P : Program} (w : World) {ops : Array Oper} {rest : List Oper} {o : Oper} {a : Act} {Q : Exit → Act → World → Prop} (hgd : o.guard = none) (s x : Operand) (t : TypeId)
    (ho : o.op = .call { callee := .builtin .append, args := #[s, x], argTypes := #[t, t] })
    (base : Nat) (e : TypeId) (i : TypeInfo) (z : Value) (sz bytes : Nat) (ht : P.underlying t = some (.slice e)) (hi : P.info? e = some i) (hz : i.zero = some z)
    (hsize : i.size = sz) (hby : i.bytes = bytes) (hzs : z.cells.size = sz) (hsz : 0 < sz)
    (v : Value) (n : Nat) (xs : List Value) (hs : a.eval s = v) (hown : w.ownsRow base e sz v n xs) {α : Type} (enc : α → List Value) (he : ∀ x, (enc x).length = sz) (hone : ∀ x, ∀ u ∈ enc x, u.oneCell' = true)
    (xv : Value) (l : List α) (hxv : a.eval x = xv) (hx : Rd w sz enc xv l) (h63 : n + l.length ≤ maxLen) (hbytes : (n + l.length) * bytes ≤ 140737488355328) (hbase : base ≤ w.heap.size)
    (h : ∀ v' w', w'.ownsRow base e sz v' (n + l.length) (xs ++ l.flatMap enc) → w.grownBy w' v.ownBlock → (v'.ownBlock = v.ownBlock ∨ v'.ownBlock = some w.heap.size) → wpList P ops Q rest (a.put o.dst v') w') :
    wpList P ops Q (o :: rest) a w := by
  refine wpList_plain hgd fun K hK => ?_
  obtain ⟨v', w', hr, h2, h3, h5⟩ := run_append_rd (P := P) w base t o.type e i z sz bytes ht hi hz hsize hby hzs hsz v n xs hown enc he hone xv l hx h63 hbytes hbase
  unfold Oper.wp execOp
  simp only [ho, resolve, invoke, builtin, Sem.run_bind, Sem.run_pure, Result.andThen_ok, List.map_toArray, List.map_cons, List.map_nil, hs, hxv, hr]
  exact hK _ _ (h v' w' h2 h3 h5)
theorem Rd.of_owns' {α : Type} {w : World} {base sz : Nat} {e : TypeId} {enc : α → List Value} (he : ∀ x, (enc x).length = sz) {v : Value} {n : Nat} {xs : List Value} {l : List α} (h : w.ownsRow base e sz v n xs) (hn : n = l.length) (hx : xs = l.flatMap enc) : Rd w sz enc v l := by
  subst hn hx; exact Rd.of_owns he h
theorem owns_empty (w : World) (e : TypeId) (sz : Nat) : (w.alloc (.cells #[] e)).ownsRow w.heap.size e sz (.slice (some ⟨w.heap.size, 0, none⟩) 0 0) 0 [] :=
  World.ownsRow_lit w #[] 0 (Nat.le_refl _) (by unfold maxLen; omega) (by simp)
end Go.Proofs.YtehmgeodpjmfaaaGreatDoor
