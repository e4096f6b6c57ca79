/- law 50: ConsequenceCounts, the statement and the card. -/
import Derived.Test.YtehmgeodpjmfaaaGreatDoorCounts
import Derived.Test.YtehmgeodpjmfaaaGreatDoorOpenC
namespace Go.Proofs.YtehmgeodpjmfaaaGreatDoor.cnts
open Go.ChangeShapes Go.WideShapes Go.ChangeAt Go.RowKit Go.Deep

theorem i8_wf {n : Int} (h : (Lit.int .i8 n).wf = true) : -128 ≤ n ∧ n ≤ 127 := by
  simp [Lit.wf, IntKind.min, IntKind.max, IntKind.signed, IntKind.bits] at h
  omega
section
variable {H : Type} {enc : TypeId × Value → H} {W : World}
/-- A []int8 that came in. -/
theorem open_kinds {v : Value} {x : DataW H × List MemPlace} (h : ∃ fuel, DataW.trod enc Tryz.prog W 0 (fun _ => true) true fuel 57 [v] = some x) : ∃ l : List Int, Rd W 1 encK v l ∧ ∀ k ∈ l, -128 ≤ k ∧ k ≤ 127 := by
  obtain ⟨fuel, h⟩ := h
  have c0 : Tryz.prog.cellsOf 58 = 1 := by kernel_rfl
  rcases open_slice Tryz.underlying57 h with ⟨h0, _⟩ | ⟨a, len, cap, m, n, D, Pl, hcs, _, hl, hm, hmm, _, hel⟩
  · simp only [List.cons.injEq, and_true] at h0
    subst h0
    exact ⟨[], Rd.nil _ _ _, fun y hy => by cases hy⟩
  · simp only [List.cons.injEq, and_true] at hcs
    subst hcs
    have each : ∀ i, i < len → ∃ y : Int, (-128 ≤ y ∧ y ≤ 127) ∧ W.cell? (a.add (i * 1)) = some (.int .i8 y) := fun i hi => by
      obtain ⟨cs', h1, h2⟩ := hel i (by rw [hmm]; simpa using (by omega : i < cap))
      rw [c0] at h1
      obtain ⟨_, _, hc⟩ := World.cells?_some h1
      obtain ⟨y, rfl, _, hw⟩ := DataW.trod_int Tryz.underlying58 h2
      refine ⟨y, i8_wf hw, ?_⟩
      have := hc 0 (by decide)
      rw [add_add] at this
      simpa using this
    obtain ⟨f, hf⟩ := choose_lt each
    refine ⟨(List.range len).map f, ⟨by simp; unfold maxLen at hm; omega, some a, cap, by simp, fun h0 => ?_⟩, fun y hy => ?_⟩
    · have h0' : 0 < len := by simpa using h0
      obtain ⟨b, off, spot⟩ := a
      have hz := (hf 0 h0').2
      have hspot : spot = none := by simpa [Addr.add] using World.cell?_spot hz
      subst hspot
      refine ⟨b, off, rfl, by simpa [Addr.add] using World.block_lt_of_cell? _ _ hz, fun j hj i u hu => ?_⟩
      have hj' : j < len := by simpa using hj
      have h3 := (hf j hj').2
      rw [add_plain] at h3
      have hi : i = 0 := by
        have := (List.getElem?_eq_some_iff.1 hu).1
        simp [encK] at this
        omega
      subst hi
      simp [encK] at hu
      subst hu
      exact h3
    · obtain ⟨i, hi, rfl⟩ := List.mem_map.1 hy
      exact (hf i (List.mem_range.1 hi)).1
end

set_option maxRecDepth 100000 in
theorem contract (H : Type) (enc : TypeId × Value → H) (W : World) (base : Nat) (args : Array Value) (ds gs : List (DataW H)) (before : List MemPlace)
    (hval : ∀ (j : Nat) t v, Tryz.f7.params[j]? = some t → args[j]? = some v → Value.okWide Tryz.prog W .any base t v)
    (hW : DataW.Whole enc Tryz.prog Tryz.f7.params.toList Rows.consequenceCountsSpec.vars false W args.toList ds gs before) :
    Calls Tryz.prog 7 args W fun e W' => ∃ v, e = .returned v ∧ Rows.consequenceCountsSpec.post enc Tryz.prog Tryz.f7 false true false false W args v W' := by
  have hW' := hW
  obtain ⟨p, q, hA0, hV, rfl, hfz, hnd⟩ := hW
  have hA : DataW.TrodAll enc Tryz.prog W 0 (fun _ => true) true Tryz.f7.params.toList args.toList ds p := hA0
  rw [Tryz.params7] at hA hval
  obtain ⟨v0, v1, d0, d1, p0, p1, rfl, rfl, rfl, h0, h1⟩ := trodAll_two hA
  obtain ⟨rfl, rfl⟩ := trodVars_none hV
  obtain ⟨a0, l0, c0, rfl⟩ := okWide_slice Tryz.underlying57 (hval 0 57 v0 rfl rfl)
  obtain ⟨cs1, rfl, _⟩ := okWide_struct Tryz.underlying37 (hval 1 37 v1 rfl rfl)
  clear hA0
  simp only [List.append_nil] at hW'
  have hlt : ∀ x ∈ p0 ++ p1, x.block < W.heap.size := fun x hx => by simpa using hW'.lt x hx
  obtain ⟨kinds, r0, k0⟩ := open_kinds h0
  obtain ⟨c, kc, e1, _⟩ := open_cons h1
  have e1' : cs1 = (encC c).toArray := by rw [← e1]; simp [Value.cells]
  subst e1'
  refine (counts_any _ kinds c W r0 k0 kc).mono ?_
  rintro e W' ⟨rfl, bel⟩
  have e2 : Rows.consequenceCountsSpec.fn H ([d0, d1] ++ []) = { results := [.lit (.bool true)], args := [d0, d1] } := rfl
  refine ⟨_, rfl, _, _, _, [], p0 ++ p1, [], hW', ?_, ?_, ?_, Below.frame bel _, fun h => by cases h⟩
  · rw [e2]; exact trodAll_cons_mk (shut_bool Tryz.underlying4 _) trodAll_mk0
  · rw [e2]; exact trodAll_mk2 (Below.trod laidOut (by kernel_rfl) (of_decide_eq_true (by kernel_rfl)) h0 bel (fun x hx => hlt x (by simp [hx]))) (Below.trod laidOut (by kernel_rfl) (of_decide_eq_true (by kernel_rfl)) h1 bel (fun x hx => hlt x (by simp [hx])))
  · rw [e2]; rfl

abbrev zc : Value := (.agg #[.int .i64 0, .string ⟨#[]⟩, .int .i64 0, .int .i64 0, .int .i64 0, .string ⟨#[]⟩, .string ⟨#[]⟩, .int .i64 0, .int .i64 0, .int .i64 0, .string ⟨#[]⟩, .string ⟨#[]⟩, .int .i64 0, .int .i64 0])
def zo (H : Type) : DataW H := .agg [.lit (.int .i64 0), .lit (.string []), .lit (.string []), .lit (.int .i64 0)]
def zd (H : Type) : DataW H := .agg [.lit (.int .i64 0), .lit (.string []), .lit (.int .i64 0), .lit (.int .i64 0), zo H, .lit (.int .i64 0), zo H, .lit (.int .i64 0)]
theorem reads (os : Os) {H : Type} (enc : TypeId × Value → H) : ∃ places, DataW.whole enc Tryz.prog ((laidWorld os).forCall (fun _ _ => 0) ⟨#[], #[.slice none 0 0, zc], []⟩).memory Tryz.f7.params.toList Rows.consequenceCountsSpec.vars false #[Value.slice none 0 0, zc].toList 8 = some ([.nil, zd H], [], places) :=
  ⟨[], by kernel_rfl⟩

set_option maxRecDepth 100000 in
theorem lifted (os : Os) (started : os.Started) (H : Type) (enc : TypeId × Value → H) (F : Stop.Interp) :
    ReturnsInHanded {} Tryz.checked os 7 .any ((OpenSpec.ofChange Rows.consequenceCountsSpec).preRow enc Tryz.prog Tryz.f7 Rows.consequenceCountsRow.domain false Rows.consequenceCountsRow.laid) (((OpenSpec.ofChange Rows.consequenceCountsSpec).at F).post enc Tryz.prog Tryz.f7 false true false false) := by
  obtain ⟨places, hx⟩ := reads os enc
  refine returnsInHanded_of_row (C := Tryz.checked) (s := OpenSpec.ofChange Rows.consequenceCountsSpec) own started (by kernel_rfl) Tryz.func7
    (witness_row_atRef (enc := enc) (C := Tryz.checked) false (laidWorld os) #[.slice none 0 0, zc] rfl (by kernel_rfl) (by kernel_rfl) (by kernel_rfl)
      (OpenSpec.preRow_of_cond 8 hx (by kernel_rfl) (fun k hk => by cases hk) (by kernel_rfl) (laid_met os _))) ?_
  intro W base args ds gs before hval hW _ _ _ _ _ _
  exact contract H enc W base args ds gs before hval hW

theorem said : Rows.ConsequenceCountsSaid :=
  OpenClaim.holds_of_cond 7 Tryz.f7 rfl rfl rfl rfl rfl rfl rfl ⟨rfl, rfl, rfl, rfl, rfl⟩ rfl rfl rfl rfl rfl (by kernel_rfl) Tryz.func7 (by kernel_rfl)
    (of_decide_eq_true (by kernel_rfl)) (by unfold Func.isWrapper; first | (rw [if_pos (by decide +kernel)]; kernel_rfl) | (rw [if_neg (by decide +kernel)]; exact ⟨rfl, rfl⟩))
    (fun os started H enc _ F => by rw [OpenClaim.pre_eq_preRow]; exact lifted os started H enc F)

theorem plain (f : FuncId) (fn : Func) (hf : Tryz.pinned.checked.prog.funcNamed "replevin/replevinlaw50.ConsequenceCounts" = some f) (hfn : Tryz.pinned.checked.prog.funcs[f]? = some fn) :
    true = Tryz.pinned.checked.prog.looks [] ∧ ∀ (j : Nat) t, fn.params[j]? = some t → Tryz.pinned.checked.prog.wantsStandIn t = false := by
  obtain rfl : f = 7 := Option.some.inj ((show Tryz.prog.funcNamed "replevin/replevinlaw50.ConsequenceCounts" = some 7 by kernel_rfl).symm.trans hf) |>.symm
  obtain rfl : fn = Tryz.f7 := (Option.some.inj (Tryz.func7.symm.trans hfn)).symm
  refine ⟨by kernel_rfl, fun j t ht => ?_⟩
  rw [Tryz.params7] at ht
  have h1 : Tryz.prog.wantsStandIn 57 = false := by kernel_rfl
  have h2 : Tryz.prog.wantsStandIn 37 = false := by kernel_rfl
  have hm := Array.mem_of_getElem? ht
  simp at hm
  rcases hm with rfl | rfl
  · exact h1
  · exact h2

theorem card : Rows.ConsequenceCountsCardSaid :=
  Claim7.holds_tied_plain_at .later [] _ _ _ _ said (fun _ h => by cases h) (by kernel_rfl) (fun _ h => by cases h) consequenceCounts_row_tie rfl ⟨rfl, rfl⟩ (by kernel_rfl) rfl plain (by kernel_rfl)
#print axioms card
end Go.Proofs.YtehmgeodpjmfaaaGreatDoor.cnts
