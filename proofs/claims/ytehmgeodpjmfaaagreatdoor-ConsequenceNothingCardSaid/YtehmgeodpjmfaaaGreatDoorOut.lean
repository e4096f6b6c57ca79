/- output: Output, its Check. -/
import Derived.Deep.LoopGhost
import Derived.Test.YtehmgeodpjmfaaaGreatDoorReader
namespace Go.Proofs.YtehmgeodpjmfaaaGreatDoor
open Go.RowKit

structure OutS where
  chan : Int
  target : ByteArray
  text : ByteArray
  user : Int
  deriving DecidableEq
def encO (o : OutS) : List Value := [.int .i64 o.chan, .string o.target, .string o.text, .int .i64 o.user]
def outV (o : OutS) : Value := .agg #[.int .i64 o.chan, .string o.target, .string o.text, .int .i64 o.user]
def badB (c : UInt8) : Bool := decide (c.toNat < 33) || decide (126 < c.toNat)
def OutS.chk (o : OutS) : Int :=
  if o.chan < 1 ∨ 4 < o.chan then 11
  else if o.target.size = 0 then 4
  else if 64 < o.target.size then 5
  else if o.target.data.toList.any badB then 6
  else if 4096 < o.text.size then 5
  else if o.user < 0 ∨ 65535 < o.user then 2
  else 0

theorem toList_nil {s : ByteArray} (h : s.size = 0) : s.toList = [] := by
  rw [Lib.toList_data]; exact List.length_eq_zero_iff.1 (by simpa using h)
theorem toList_ne {s : ByteArray} (h : s.size ≠ 0) : s.toList ≠ [] := by
  intro e
  rw [Lib.toList_data] at e
  have : s.data.toList.length = 0 := by rw [e]; rfl
  exact h (by simpa using this)
theorem no_bad {s : ByteArray} (h : s.data.toList.any badB = false) (i : Nat) (hi : i < s.size) : 33 ≤ (((s[i]'hi).toNat : Nat) : Int) ∧ (((s[i]'hi).toNat : Nat) : Int) ≤ 126 := by
  have := List.any_eq_false.1 h (s[i]'hi) (by show s.data[i]'hi ∈ _; simp)
  simp [badB] at this
  omega
theorem bad_step {s : ByteArray} {i : Nat} (h : (s.data.toList.drop i).any badB = true) (hi : i < s.size) :
    (((s[i]'hi).toNat : Nat) : Int) < 33 ∨ (¬ (((s[i]'hi).toNat : Nat) : Int) < 33 ∧ 126 < (((s[i]'hi).toNat : Nat) : Int)) ∨ (33 ≤ (((s[i]'hi).toNat : Nat) : Int) ∧ (((s[i]'hi).toNat : Nat) : Int) ≤ 126 ∧ (s.data.toList.drop (i + 1)).any badB = true) := by
  have hd := List.drop_eq_getElem_cons (l := s.data.toList) (i := i) (by simpa using hi)
  have e : s.data.toList[i]'(by simpa using hi) = s[i]'hi := rfl
  rw [e] at hd
  rw [hd, List.any_cons] at h
  generalize (s[i]'hi) = x at h ⊢
  generalize (s.data.toList.drop (i + 1)).any badB = y at h ⊢
  cases y
  · simp [badB] at h; omega
  · by_cases h1 : x.toNat < 33
    · left; omega
    · by_cases h2 : 126 < x.toNat
      · right; left; omega
      · right; right; exact ⟨by omega, by omega, rfl⟩
theorem bad_none {s : ByteArray} {i : Nat} (h : (s.data.toList.drop i).any badB = true) (hi : ¬ i < s.size) : False := by
  have e : s.data.toList.drop i = [] := List.drop_of_length_le (by simpa using hi)
  rw [e] at h; simp at h

set_option maxHeartbeats 4000000 in
set_option maxRecDepth 100000 in
theorem chk_a (o : OutS) (w : World) (ht : o.target.size ≤ 9223372036854775000) (hx : o.text.size ≤ 9223372036854775000) (h1 : o.chan < 1) :
    Calls Tryz.prog 54 #[outV o] w fun e w' => e = .returned (.int .i64 11) ∧ Ext w w' := by
  obtain ⟨ch, tg, tx, us⟩ := o
  simp only at *
  simp only [outV]
  go_enter Tryz.func54, Tryz.ntmps54
  go_wp2_with fail
  go_ret
  exact ⟨rfl, (Ext.refl w).alloc _⟩

set_option maxHeartbeats 4000000 in
set_option maxRecDepth 100000 in
theorem chk_b (o : OutS) (w : World) (ht : o.target.size ≤ 9223372036854775000) (hx : o.text.size ≤ 9223372036854775000) (h1 : ¬ o.chan < 1) (h2 : 4 < o.chan) :
    Calls Tryz.prog 54 #[outV o] w fun e w' => e = .returned (.int .i64 11) ∧ Ext w w' := by
  obtain ⟨ch, tg, tx, us⟩ := o
  simp only at *
  simp only [outV]
  go_enter Tryz.func54, Tryz.ntmps54
  go_wp2_with fail
  go_ret
  exact ⟨rfl, (Ext.refl w).alloc _⟩

set_option maxHeartbeats 4000000 in
set_option maxRecDepth 100000 in
theorem chk_c (o : OutS) (w : World) (ht : o.target.size ≤ 9223372036854775000) (hx : o.text.size ≤ 9223372036854775000) (h1 : ¬ o.chan < 1) (h2 : ¬ 4 < o.chan) (h3 : o.target.size = 0) :
    Calls Tryz.prog 54 #[outV o] w fun e w' => e = .returned (.int .i64 4) ∧ Ext w w' := by
  obtain ⟨ch, tg, tx, us⟩ := o
  simp only at *
  simp only [outV]
  have e0 : tg.toList = [] := toList_nil h3
  have e1 : tg.toList.isEmpty = true := by rw [e0]; rfl
  have e2 : (!tg.toList.isEmpty) = false := by rw [e0]; rfl
  go_enter Tryz.func54, Tryz.ntmps54
  go_wp2_with fail
  go_ret
  exact ⟨rfl, (Ext.refl w).alloc _⟩

set_option maxHeartbeats 4000000 in
set_option maxRecDepth 100000 in
theorem chk_d (o : OutS) (w : World) (ht : o.target.size ≤ 9223372036854775000) (hx : o.text.size ≤ 9223372036854775000) (h1 : ¬ o.chan < 1) (h2 : ¬ 4 < o.chan) (h3 : o.target.size ≠ 0) (h4 : 64 < o.target.size) :
    Calls Tryz.prog 54 #[outV o] w fun e w' => e = .returned (.int .i64 5) ∧ Ext w w' := by
  obtain ⟨ch, tg, tx, us⟩ := o
  simp only at *
  simp only [outV]
  have e0 := toList_ne h3
  have e1 : tg.toList.isEmpty = false := by simpa using e0
  have e2 : (!tg.toList.isEmpty) = true := by simpa using e0
  have h4' : (64 : Int) < (tg.size : Int) := by omega
  go_enter Tryz.func54, Tryz.ntmps54
  go_wp2_with fail
  go_ret
  exact ⟨rfl, (Ext.refl w).alloc _⟩

set_option maxHeartbeats 4000000 in
set_option maxRecDepth 100000 in
theorem chk_f (o : OutS) (w : World) (ht : o.target.size ≤ 9223372036854775000) (hx : o.text.size ≤ 9223372036854775000) (h1 : ¬ o.chan < 1) (h2 : ¬ 4 < o.chan) (h3 : o.target.size ≠ 0) (h4 : ¬ 64 < o.target.size) (ha : o.target.data.toList.any badB = false) (h5 : (4096 : Int) < (o.text.size : Int)) :
    Calls Tryz.prog 54 #[outV o] w fun e w' => e = .returned (.int .i64 5) ∧ Ext w w' := by
  obtain ⟨ch, tg, tx, us⟩ := o
  simp only at *
  simp only [outV]
  have e0 := toList_ne h3
  have e1 : tg.toList.isEmpty = false := by simpa using e0
  have e2 : (!tg.toList.isEmpty) = true := by simpa using e0
  have h4' : ¬ ((64 : Int) < (tg.size : Int)) := by omega
  have HA := Lib.hid ha
  clear ha
  go_enter Tryz.func54, Tryz.ntmps54
  go_wp2_with fail
  go_loopg [25] tg.size (fun g a wx => ∃ i : Nat, a = .int .i64 i ∧ i + g = tg.size ∧ wx = w.alloc (.cells #[.int .i64 ch, .string tg, .string tx, .int .i64 us] 35))
  case atStart => exact ⟨0, rfl, by omega, rfl⟩
  case round =>
    obtain ⟨i, rfl, hg, rfl⟩ := hrel
    by_cases hlt : i < tg.size
    · have hb := no_bad HA.out i hlt
      obtain ⟨hb1, hb2⟩ := hb
      go_wp2_with fail
      go_roundg (tg.size - (i + 1))
      case measure => omega
      case rel => exact ⟨i + 1, by go_num, by omega, rfl⟩
    · go_wp2_with fail
      go_ret
      exact ⟨rfl, (Ext.refl w).alloc _⟩

set_option maxHeartbeats 4000000 in
set_option maxRecDepth 100000 in
theorem chk_g (o : OutS) (w : World) (ht : o.target.size ≤ 9223372036854775000) (hx : o.text.size ≤ 9223372036854775000) (h1 : ¬ o.chan < 1) (h2 : ¬ 4 < o.chan) (h3 : o.target.size ≠ 0) (h4 : ¬ 64 < o.target.size) (ha : o.target.data.toList.any badB = false) (h5 : ¬ (4096 : Int) < (o.text.size : Int)) (h6 : o.user < 0) :
    Calls Tryz.prog 54 #[outV o] w fun e w' => e = .returned (.int .i64 2) ∧ Ext w w' := by
  obtain ⟨ch, tg, tx, us⟩ := o
  simp only at *
  simp only [outV]
  have e0 := toList_ne h3
  have e1 : tg.toList.isEmpty = false := by simpa using e0
  have e2 : (!tg.toList.isEmpty) = true := by simpa using e0
  have h4' : ¬ ((64 : Int) < (tg.size : Int)) := by omega
  have HA := Lib.hid ha
  clear ha
  go_enter Tryz.func54, Tryz.ntmps54
  go_wp2_with fail
  go_loopg [25] tg.size (fun g a wx => ∃ i : Nat, a = .int .i64 i ∧ i + g = tg.size ∧ wx = w.alloc (.cells #[.int .i64 ch, .string tg, .string tx, .int .i64 us] 35))
  case atStart => exact ⟨0, rfl, by omega, rfl⟩
  case round =>
    obtain ⟨i, rfl, hg, rfl⟩ := hrel
    by_cases hlt : i < tg.size
    · have hb := no_bad HA.out i hlt
      obtain ⟨hb1, hb2⟩ := hb
      go_wp2_with fail
      go_roundg (tg.size - (i + 1))
      case measure => omega
      case rel => exact ⟨i + 1, by go_num, by omega, rfl⟩
    · go_wp2_with fail
      go_ret
      exact ⟨rfl, (Ext.refl w).alloc _⟩

set_option maxHeartbeats 4000000 in
set_option maxRecDepth 100000 in
theorem chk_h (o : OutS) (w : World) (ht : o.target.size ≤ 9223372036854775000) (hx : o.text.size ≤ 9223372036854775000) (h1 : ¬ o.chan < 1) (h2 : ¬ 4 < o.chan) (h3 : o.target.size ≠ 0) (h4 : ¬ 64 < o.target.size) (ha : o.target.data.toList.any badB = false) (h5 : ¬ (4096 : Int) < (o.text.size : Int)) (h6 : ¬ o.user < 0) (h7 : 65535 < o.user) :
    Calls Tryz.prog 54 #[outV o] w fun e w' => e = .returned (.int .i64 2) ∧ Ext w w' := by
  obtain ⟨ch, tg, tx, us⟩ := o
  simp only at *
  simp only [outV]
  have e0 := toList_ne h3
  have e1 : tg.toList.isEmpty = false := by simpa using e0
  have e2 : (!tg.toList.isEmpty) = true := by simpa using e0
  have h4' : ¬ ((64 : Int) < (tg.size : Int)) := by omega
  have HA := Lib.hid ha
  clear ha
  go_enter Tryz.func54, Tryz.ntmps54
  go_wp2_with fail
  go_loopg [25] tg.size (fun g a wx => ∃ i : Nat, a = .int .i64 i ∧ i + g = tg.size ∧ wx = w.alloc (.cells #[.int .i64 ch, .string tg, .string tx, .int .i64 us] 35))
  case atStart => exact ⟨0, rfl, by omega, rfl⟩
  case round =>
    obtain ⟨i, rfl, hg, rfl⟩ := hrel
    by_cases hlt : i < tg.size
    · have hb := no_bad HA.out i hlt
      obtain ⟨hb1, hb2⟩ := hb
      go_wp2_with fail
      go_roundg (tg.size - (i + 1))
      case measure => omega
      case rel => exact ⟨i + 1, by go_num, by omega, rfl⟩
    · go_wp2_with fail
      go_ret
      exact ⟨rfl, (Ext.refl w).alloc _⟩

set_option maxHeartbeats 4000000 in
set_option maxRecDepth 100000 in
theorem chk_i (o : OutS) (w : World) (ht : o.target.size ≤ 9223372036854775000) (hx : o.text.size ≤ 9223372036854775000) (h1 : ¬ o.chan < 1) (h2 : ¬ 4 < o.chan) (h3 : o.target.size ≠ 0) (h4 : ¬ 64 < o.target.size) (ha : o.target.data.toList.any badB = false) (h5 : ¬ (4096 : Int) < (o.text.size : Int)) (h6 : ¬ o.user < 0) (h7 : ¬ 65535 < o.user) :
    Calls Tryz.prog 54 #[outV o] w fun e w' => e = .returned (.int .i64 0) ∧ Ext w w' := by
  obtain ⟨ch, tg, tx, us⟩ := o
  simp only at *
  simp only [outV]
  have e0 := toList_ne h3
  have e1 : tg.toList.isEmpty = false := by simpa using e0
  have e2 : (!tg.toList.isEmpty) = true := by simpa using e0
  have h4' : ¬ ((64 : Int) < (tg.size : Int)) := by omega
  have HA := Lib.hid ha
  clear ha
  go_enter Tryz.func54, Tryz.ntmps54
  go_wp2_with fail
  go_loopg [25] tg.size (fun g a wx => ∃ i : Nat, a = .int .i64 i ∧ i + g = tg.size ∧ wx = w.alloc (.cells #[.int .i64 ch, .string tg, .string tx, .int .i64 us] 35))
  case atStart => exact ⟨0, rfl, by omega, rfl⟩
  case round =>
    obtain ⟨i, rfl, hg, rfl⟩ := hrel
    by_cases hlt : i < tg.size
    · have hb := no_bad HA.out i hlt
      obtain ⟨hb1, hb2⟩ := hb
      go_wp2_with fail
      go_roundg (tg.size - (i + 1))
      case measure => omega
      case rel => exact ⟨i + 1, by go_num, by omega, rfl⟩
    · go_wp2_with fail
      go_ret
      exact ⟨rfl, (Ext.refl w).alloc _⟩

set_option maxHeartbeats 4000000 in
set_option maxRecDepth 100000 in
theorem chk_e (o : OutS) (w : World) (ht : o.target.size ≤ 9223372036854775000) (hx : o.text.size ≤ 9223372036854775000) (h1 : ¬ o.chan < 1) (h2 : ¬ 4 < o.chan) (h3 : o.target.size ≠ 0) (h4 : ¬ 64 < o.target.size) (ha : o.target.data.toList.any badB = true) :
    Calls Tryz.prog 54 #[outV o] w fun e w' => e = .returned (.int .i64 6) ∧ Ext w w' := by
  obtain ⟨ch, tg, tx, us⟩ := o
  simp only at *
  simp only [outV]
  have e0 := toList_ne h3
  have e1 : tg.toList.isEmpty = false := by simpa using e0
  have e2 : (!tg.toList.isEmpty) = true := by simpa using e0
  have h4' : ¬ ((64 : Int) < (tg.size : Int)) := by omega
  have HA := Lib.hid ha
  clear ha
  go_enter Tryz.func54, Tryz.ntmps54
  go_wp2_with fail
  go_loopg [25] tg.size (fun g a wx => ∃ i : Nat, a = .int .i64 i ∧ i + g = tg.size ∧ wx = w.alloc (.cells #[.int .i64 ch, .string tg, .string tx, .int .i64 us] 35) ∧ Aside ((tg.data.toList.drop i).any badB = true))
  case atStart => exact ⟨0, rfl, by omega, rfl, by (show List.any (List.drop 0 _) badB = true); rw [List.drop_zero]; exact HA.out⟩
  case round =>
    obtain ⟨i, rfl, hg, rfl, hA⟩ := hrel
    by_cases hlt : i < tg.size
    · rcases bad_step hA.out hlt with hb | hb | ⟨hb1, hb2, hb3⟩
      · go_wp2_with fail
        go_ret
        exact ⟨rfl, (Ext.refl w).alloc _⟩
      · have hb' : ¬ (((tg[i]'hlt).toNat : Int) < 33) := hb.1
        have hb2 := hb.2
        go_wp2_with fail
        go_ret
        exact ⟨rfl, (Ext.refl w).alloc _⟩
      · have HB := Lib.hid hb3
        clear hb3
        go_wp2_with fail
        go_roundg (tg.size - (i + 1))
        case measure => omega
        case rel => exact ⟨i + 1, by go_num, by omega, rfl, HB.out⟩
    · exact (bad_none hA.out hlt).elim


theorem chk_any (o : OutS) (w : World) (ht : o.target.size ≤ 9223372036854775000) (hx : o.text.size ≤ 9223372036854775000) :
    Calls Tryz.prog 54 #[outV o] w fun e w' => e = .returned (.int .i64 o.chk) ∧ Ext w w' := by
  unfold OutS.chk
  by_cases h1 : o.chan < 1
  · rw [if_pos (.inl h1)]; exact chk_a o w ht hx h1
  by_cases h2 : 4 < o.chan
  · rw [if_pos (.inr h2)]; exact chk_b o w ht hx h1 h2
  rw [if_neg (by omega)]
  by_cases h3 : o.target.size = 0
  · rw [if_pos h3]; exact chk_c o w ht hx h1 h2 h3
  rw [if_neg h3]
  by_cases h4 : 64 < o.target.size
  · rw [if_pos h4]; exact chk_d o w ht hx h1 h2 h3 h4
  rw [if_neg h4]
  by_cases ha : o.target.data.toList.any badB = true
  · rw [if_pos ha]; exact chk_e o w ht hx h1 h2 h3 h4 ha
  rw [if_neg ha]
  have ha' : o.target.data.toList.any badB = false := by simpa using ha
  by_cases h5 : 4096 < o.text.size
  · rw [if_pos h5]; exact chk_f o w ht hx h1 h2 h3 h4 ha' (by omega)
  rw [if_neg h5]
  by_cases h6 : o.user < 0
  · rw [if_pos (.inl h6)]; exact chk_g o w ht hx h1 h2 h3 h4 ha' (by omega) h6
  by_cases h7 : 65535 < o.user
  · rw [if_pos (.inr h7)]; exact chk_h o w ht hx h1 h2 h3 h4 ha' (by omega) h6 h7
  rw [if_neg (by omega)]
  exact chk_i o w ht hx h1 h2 h3 h4 ha' (by omega) h6 h7
theorem chk_ok {o : OutS} (h : o.chk = 0) : 1 ≤ o.chan ∧ o.chan ≤ 4 ∧ 0 < o.target.size ∧ o.target.size ≤ 64 ∧ o.target.data.toList.any badB = false ∧ o.text.size ≤ 4096 ∧ 0 ≤ o.user ∧ o.user ≤ 65535 := by
  unfold OutS.chk at h
  by_cases h1 : o.chan < 1 ∨ 4 < o.chan
  · rw [if_pos h1] at h; omega
  rw [if_neg h1] at h
  by_cases h3 : o.target.size = 0
  · rw [if_pos h3] at h; omega
  rw [if_neg h3] at h
  by_cases h4 : 64 < o.target.size
  · rw [if_pos h4] at h; omega
  rw [if_neg h4] at h
  by_cases ha : o.target.data.toList.any badB = true
  · rw [if_pos ha] at h; omega
  rw [if_neg ha] at h
  by_cases h5 : 4096 < o.text.size
  · rw [if_pos h5] at h; omega
  rw [if_neg h5] at h
  by_cases h6 : o.user < 0 ∨ 65535 < o.user
  · rw [if_pos h6] at h; omega
  exact ⟨by omega, by omega, by omega, by omega, by simpa using ha, by omega, by omega, by omega⟩

def txtL (s : ByteArray) : List UInt8 := natL s.size ++ s.data.toList
def outL (o : OutS) : List UInt8 := natL o.chan.toNat ++ (txtL o.target ++ (txtL o.text ++ natL o.user.toNat))
theorem numI_w (b : Nat) (l : List UInt8) (v : Value) (n : Int) (hn : 0 ≤ n) (hn2 : n < 9223372036854775808) (w : World) (hW : WAt w b l v) (hl : l.length ≤ 900000000) :
    Calls Tryz.prog 81 #[.pointer (some ⟨b, 0, none⟩), .int .i64 n] w fun e w' => (∃ r, e = .returned r) ∧ ∃ v', WAt w' b (l ++ natL n.toNat) v' ∧ Fr b v w w' ∧ Own2 w.heap.size v v' := by
  have h := number_w b l v n.toNat (by omega) w hW hl
  rwa [Int.toNat_of_nonneg hn] at h
theorem Fr.stay {b : Nat} {v v' : Value} {w w' : World} (h : Fr b v w w') (ho : Own2 w.heap.size v v') {c : Nat} (hb : c ≠ b) (hv : v.ownBlock ≠ some c) (hlt : c < w.heap.size) : v'.ownBlock ≠ some c ∧ c < w'.heap.size ∧ w'.heap[c]? = w.heap[c]? := by
  refine ⟨?_, Nat.lt_of_lt_of_le hlt h.size, h.block c hlt hb (fun e => hv e.symm)⟩
  rcases ho with ho | ⟨g, hg, ho⟩
  · rw [ho]; exact hv
  · rw [ho]; intro e; cases e; omega
theorem nat_len10 (n : Nat) (h : n < 9223372036854775808) : (natL n).length ≤ 10 := natL_len 10 n (by omega) (by omega)

set_option maxHeartbeats 4000000 in
set_option maxRecDepth 100000 in
theorem owrite_any (b : Nat) (l : List UInt8) (v : Value) (o : OutS) (ho : o.chk = 0) (w : World) (hW : WAt w b l v) (hl : l.length ≤ 800000000) :
    Calls Tryz.prog 56 #[outV o, .pointer (some ⟨b, 0, none⟩)] w fun e w' => (∃ r, e = .returned r) ∧ ∃ v', WAt w' b (l ++ outL o) v' ∧ Fr b v w w' ∧ Own2 w.heap.size v v' := by
  obtain ⟨o1, o2, o3, o4, _, o5, o6, o7⟩ := chk_ok ho
  have HE : Hid (outL o = natL o.chan.toNat ++ (txtL o.target ++ (txtL o.text ++ natL o.user.toNat))) := Lib.hid rfl
  generalize outL o = L at HE ⊢
  clear ho
  obtain ⟨ch, tg, tx, us⟩ := o
  simp only at *
  have n1 := nat_len10 ch.toNat (by omega)
  have n2 := nat_len10 tg.size (by omega)
  have n3 := nat_len10 tx.size (by omega)
  have hbl := (Array.getElem?_eq_some_iff.1 hW.1).1
  have hvb : v.ownBlock ≠ some w.heap.size := fun e => by have := hW.own_lt e; omega
  have H0 := Lib.hid (hW.ext ((Ext.refl w).alloc (.cells #[.int .i64 ch, .string tg, .string tx, .int .i64 us] 35)))
  have hn := heap_new w (.cells #[.int .i64 ch, .string tg, .string tx, .int .i64 us] 35)
  have HB0 := Lib.hid (And.intro hvb hn)
  clear hW hvb hn
  simp only [outV]
  go_enter Tryz.func56, Tryz.ntmps56
  go_wp2_with fail
  (with_reducible refine (numI_w b l v ch (by omega) (by omega) _ H0.out (by omega)).mono ?_)
  rintro e w1 ⟨⟨r, rfl⟩, v1, hW1, hF1, hO1⟩
  obtain ⟨hv1, hl1, hq1⟩ := hF1.stay hO1 (c := w.heap.size) (by omega) HB0.out.1 (by simp)
  have hb1 := hq1.trans HB0.out.2
  have d1 := (cells_at hb1).1 1 _ rfl
  have Z1 := Lib.hid (And.intro hW1 (And.intro hF1 (And.intro hO1 (And.intro hv1 hb1))))
  clear hW1 hF1 hO1 hv1 hb1 hq1
  simp only [List.getElem_toArray, List.getElem_cons_zero, List.getElem_cons_succ] at d1
  go_wp2_with fail
  (with_reducible refine (text_w b (l ++ natL ch.toNat) v1 tg (by omega) _ Z1.out.1 (by simp only [List.length_append]; simp only [ByteArray.size] at *; omega)).mono ?_)
  rintro e w2 ⟨⟨r, rfl⟩, v2, hW2, hF2, hO2⟩
  obtain ⟨hv2, hl2, hq2⟩ := hF2.stay hO2 (c := w.heap.size) (by omega) Z1.out.2.2.2.1 hl1
  have hb2 := hq2.trans Z1.out.2.2.2.2
  have d2 := (cells_at hb2).1 2 _ rfl
  have Z2 := Lib.hid (And.intro hW2 (And.intro hF2 (And.intro hO2 (And.intro hv2 hb2))))
  clear hW2 hF2 hO2 hv2 hb2 hq2
  simp only [List.getElem_toArray, List.getElem_cons_zero, List.getElem_cons_succ] at d2
  go_wp2_with fail
  (with_reducible refine (text_w b (l ++ natL ch.toNat ++ (natL tg.size ++ tg.data.toList)) v2 tx (by omega) _ Z2.out.1 (by simp only [List.length_append, Array.length_toList]; simp only [ByteArray.size] at *; omega)).mono ?_)
  rintro e w3 ⟨⟨r, rfl⟩, v3, hW3, hF3, hO3⟩
  obtain ⟨hv3, hl3, hq3⟩ := hF3.stay hO3 (c := w.heap.size) (by omega) Z2.out.2.2.2.1 hl2
  have hb3 := hq3.trans Z2.out.2.2.2.2
  have d3 := (cells_at hb3).1 3 _ rfl
  have Z3 := Lib.hid (And.intro hW3 (And.intro hF3 (And.intro hO3 (And.intro hv3 hb3))))
  clear hW3 hF3 hO3 hv3 hb3 hq3
  simp only [List.getElem_toArray, List.getElem_cons_zero, List.getElem_cons_succ] at d3
  go_wp2_with fail
  (with_reducible refine (numI_w b (l ++ natL ch.toNat ++ (natL tg.size ++ tg.data.toList) ++ (natL tx.size ++ tx.data.toList)) v3 us (by omega) (by omega) _ Z3.out.1 (by simp only [List.length_append, Array.length_toList]; simp only [ByteArray.size] at *; omega)).mono ?_)
  rintro e w4 ⟨⟨r, rfl⟩, v4, hW4, hF4, hO4⟩
  have Z4 := Lib.hid (And.intro hW4 (And.intro hF4 hO4))
  clear hW4 hF4 hO4 d1 d2 d3
  go_wp2_with fail
  refine bodyPost_end (results_none rfl _ _ _) rfl ?_
  obtain ⟨hW4, hF4, hO4⟩ := Z4.out
  obtain ⟨_, hF3, hO3, _⟩ := Z3.out
  obtain ⟨_, hF2, hO2, _⟩ := Z2.out
  obtain ⟨_, hF1, hO1, _⟩ := Z1.out
  have hX : Ext w (w.alloc (.cells #[.int .i64 ch, .string tg, .string tx, .int .i64 us] 35)) := (Ext.refl w).alloc _
  have g1 := (Fr.of_ext (b := b) (v := v) hX).trans hF1 (.inl rfl)
  have p1 := Own2.trans (n := w.heap.size) (v := v) (.inl rfl) hO1 hX.size
  have g2 := g1.trans hF2 p1
  have p2 := p1.trans hO2 g1.size
  have g3 := g2.trans hF3 p2
  have p3 := p2.trans hO3 g2.size
  refine ⟨⟨_, rfl⟩, v4, ?_, g3.trans hF4 p3, p3.trans hO4 g3.size⟩
  rw [HE.out]
  simpa only [txtL, List.append_assoc] using hW4
end Go.Proofs.YtehmgeodpjmfaaaGreatDoor
