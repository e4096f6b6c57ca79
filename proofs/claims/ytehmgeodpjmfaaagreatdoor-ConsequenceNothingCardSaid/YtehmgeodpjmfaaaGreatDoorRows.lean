/-
  NARROWER THAN 'FOR EVERY INPUT', by the rows' own cells (each row's printed sentence says how): ConsequencePlaces: laid · ConsequenceCompares: laid · ConsequenceEquals: laid · ConsequenceNothing: laid · ConsequenceCounts: laid · ConsequenceErrors: laid · ConsequenceChains: laid.
  DERIVED. THE GIVEN ROWS OF THIS SEAT. 7 by the template 'for every input the law returns true; each argument reads behind the call as it read before'; 0 by the template 'total and deterministic' (their statements: YtehmgeodpjmfaaaGreatDoorTotals.lean).
  GIVEN WITH THE SEED: the statements are not yours to turn. If you find one false, say at which input.
  Laid BY PROGRAM, IN A SANDBOX (cutbox-rows.mjs): the forced cells as the released guide's own fill.sh prints them over the translation ade22bc1446c730f… (all of the seat's roots in one cut). By AI agents, Wed Nov 11 2026. No macro, syntax, notation, axiom, sorry.
-/
import Derived.Test.YtehmgeodpjmfaaaGreatDoorChecked
import GoSem.Claim
import GoSem.ClaimJoined
import GoSem.ClaimMapViews
import Derived.JoinedTies
import Derived.KernelRfl
namespace Go.Proofs.YtehmgeodpjmfaaaGreatDoor
/- THE CELL 'sum', in the pinned program and in every row, IS THE sha256 OF THE DUMP (.gsa) THAT YtehmgeodpjmfaaaGreatDoorProg.lean LOADS. Nothing in Lean hashes anything: it is a label: what it is worth is what the hold of that sum in a sandbox is worth. -/
noncomputable def Tryz.pinned : Pinned := { name := "ytehmgeodpjmfaaagreatdoor", sum := "ade22bc1446c730ff9c5ede2b892f0540fc62a70392095abd1d8c7e43640cd6c", checked := Tryz.checked }
namespace Rows
def none {H : Type} : Left H := { results := [], args := [] }

/- WHAT THE LISTED PACKAGE-LEVEL VARIABLES READ AS WHEN THE CALL BEGINS. Each datum BY PROGRAM (the guide's laid-datum.mjs) off the statement by which the dump's own 'gosem.cut.vars' lays the variable. In a bare row this is a premise. The card (YtehmgeodpjmfaaaGreatDoorCards.lean) ties it to the program's text. -/
def laid_math_bits_deBruijn32tab {H : Type} : DataW H := .agg [.lit (.int .u8 0), .lit (.int .u8 1), .lit (.int .u8 28), .lit (.int .u8 2), .lit (.int .u8 29), .lit (.int .u8 14), .lit (.int .u8 24), .lit (.int .u8 3), .lit (.int .u8 30), .lit (.int .u8 22), .lit (.int .u8 20), .lit (.int .u8 15), .lit (.int .u8 25), .lit (.int .u8 17), .lit (.int .u8 4), .lit (.int .u8 8), .lit (.int .u8 31), .lit (.int .u8 27), .lit (.int .u8 13), .lit (.int .u8 23), .lit (.int .u8 21), .lit (.int .u8 19), .lit (.int .u8 16), .lit (.int .u8 7), .lit (.int .u8 26), .lit (.int .u8 12), .lit (.int .u8 18), .lit (.int .u8 6), .lit (.int .u8 11), .lit (.int .u8 5), .lit (.int .u8 10), .lit (.int .u8 9)]
def laid_math_bits_deBruijn64tab {H : Type} : DataW H := .agg [.lit (.int .u8 0), .lit (.int .u8 1), .lit (.int .u8 56), .lit (.int .u8 2), .lit (.int .u8 57), .lit (.int .u8 49), .lit (.int .u8 28), .lit (.int .u8 3), .lit (.int .u8 61), .lit (.int .u8 58), .lit (.int .u8 42), .lit (.int .u8 50), .lit (.int .u8 38), .lit (.int .u8 29), .lit (.int .u8 17), .lit (.int .u8 4), .lit (.int .u8 62), .lit (.int .u8 47), .lit (.int .u8 59), .lit (.int .u8 36), .lit (.int .u8 45), .lit (.int .u8 43), .lit (.int .u8 51), .lit (.int .u8 22), .lit (.int .u8 53), .lit (.int .u8 39), .lit (.int .u8 33), .lit (.int .u8 30), .lit (.int .u8 24), .lit (.int .u8 18), .lit (.int .u8 12), .lit (.int .u8 5), .lit (.int .u8 63), .lit (.int .u8 55), .lit (.int .u8 48), .lit (.int .u8 27), .lit (.int .u8 60), .lit (.int .u8 41), .lit (.int .u8 37), .lit (.int .u8 16), .lit (.int .u8 46), .lit (.int .u8 35), .lit (.int .u8 44), .lit (.int .u8 21), .lit (.int .u8 52), .lit (.int .u8 32), .lit (.int .u8 23), .lit (.int .u8 11), .lit (.int .u8 54), .lit (.int .u8 26), .lit (.int .u8 40), .lit (.int .u8 15), .lit (.int .u8 34), .lit (.int .u8 20), .lit (.int .u8 31), .lit (.int .u8 10), .lit (.int .u8 25), .lit (.int .u8 14), .lit (.int .u8 19), .lit (.int .u8 9), .lit (.int .u8 13), .lit (.int .u8 8), .lit (.int .u8 7), .lit (.int .u8 6)]
def laid_internal_strconv_uint64pow10 {H : Type} : DataW H := .agg [.lit (.int .u64 1), .lit (.int .u64 10), .lit (.int .u64 100), .lit (.int .u64 1000), .lit (.int .u64 10000), .lit (.int .u64 100000), .lit (.int .u64 1000000), .lit (.int .u64 10000000), .lit (.int .u64 100000000), .lit (.int .u64 1000000000), .lit (.int .u64 10000000000), .lit (.int .u64 100000000000), .lit (.int .u64 1000000000000), .lit (.int .u64 10000000000000), .lit (.int .u64 100000000000000), .lit (.int .u64 1000000000000000), .lit (.int .u64 10000000000000000), .lit (.int .u64 100000000000000000), .lit (.int .u64 1000000000000000000), .lit (.int .u64 10000000000000000000)]
def laid_strconv_ErrRange {H : Type} : DataW H := .iface "*errors.errorString" (.ptr (.agg [.lit (.string [118, 97, 108, 117, 101, 32, 111, 117, 116, 32, 111, 102, 32, 114, 97, 110, 103, 101])]))
def laid_strconv_ErrSyntax {H : Type} : DataW H := .iface "*errors.errorString" (.ptr (.agg [.lit (.string [105, 110, 118, 97, 108, 105, 100, 32, 115, 121, 110, 116, 97, 120])]))

/-- 'replevinlaw50.ConsequencePlaces': WHATEVER THE INPUT: true; the input reads as it did. -/
def consequencePlacesSpec : ChangeSpec := { name := "consequencePlaces", fn := fun _ => fun
  | [d1, d2] => { results := [.lit (.bool true)], args := [d1, d2] }
  | _ => none }
def consequencePlacesRow : OpenClaim := { program := "ytehmgeodpjmfaaagreatdoor", sum := "ade22bc1446c730ff9c5ede2b892f0540fc62a70392095abd1d8c7e43640cd6c", func := "replevin/replevinlaw50.ConsequencePlaces", spec := "consequencePlaces", inPlace := ["internal/bytealg.abigen_runtime_cmpstring"], unfollowed := true, recurses := true, named := ["strconv.ErrSyntax", "strconv.ErrRange", "internal/strconv.uint64pow10", "math/bits.deBruijn32tab", "math/bits.deBruijn64tab"], plainKeys := false, apart := false, laid := [("math/bits.deBruijn32tab", laid_math_bits_deBruijn32tab), ("math/bits.deBruijn64tab", laid_math_bits_deBruijn64tab), ("internal/strconv.uint64pow10", laid_internal_strconv_uint64pow10), ("strconv.ErrRange", laid_strconv_ErrRange), ("strconv.ErrSyntax", laid_strconv_ErrSyntax)] }
def ConsequencePlacesSaid : Prop := consequencePlacesRow.holds Tryz.pinned (OpenSpec.ofChange consequencePlacesSpec)

/-- ITS FALSE NEIGHBOUR: 'it returns false'. Refute it at one input. -/
def consequencePlacesWrong : ChangeSpec := { name := "consequencePlaces", fn := fun _ => fun
  | [d1, d2] => { results := [.lit (.bool false)], args := [d1, d2] }
  | _ => none }
def ConsequencePlacesWrongFalsely : Prop := consequencePlacesRow.holds Tryz.pinned (OpenSpec.ofChange consequencePlacesWrong)

/-- 'replevinlaw50.ConsequenceCompares': WHATEVER THE INPUT: true; the input reads as it did. -/
def consequenceComparesSpec : ChangeSpec := { name := "consequenceCompares", fn := fun _ => fun
  | [d1, d2] => { results := [.lit (.bool true)], args := [d1, d2] }
  | _ => none }
def consequenceComparesRow : OpenClaim := { program := "ytehmgeodpjmfaaagreatdoor", sum := "ade22bc1446c730ff9c5ede2b892f0540fc62a70392095abd1d8c7e43640cd6c", func := "replevin/replevinlaw50.ConsequenceCompares", spec := "consequenceCompares", inPlace := ["internal/bytealg.abigen_runtime_cmpstring"], unfollowed := true, recurses := true, named := ["strconv.ErrSyntax", "strconv.ErrRange", "internal/strconv.uint64pow10", "math/bits.deBruijn32tab", "math/bits.deBruijn64tab"], plainKeys := false, apart := false, laid := [("math/bits.deBruijn32tab", laid_math_bits_deBruijn32tab), ("math/bits.deBruijn64tab", laid_math_bits_deBruijn64tab), ("internal/strconv.uint64pow10", laid_internal_strconv_uint64pow10), ("strconv.ErrRange", laid_strconv_ErrRange), ("strconv.ErrSyntax", laid_strconv_ErrSyntax)] }
def ConsequenceComparesSaid : Prop := consequenceComparesRow.holds Tryz.pinned (OpenSpec.ofChange consequenceComparesSpec)

/-- ITS FALSE NEIGHBOUR: 'it returns false'. Refute it at one input. -/
def consequenceComparesWrong : ChangeSpec := { name := "consequenceCompares", fn := fun _ => fun
  | [d1, d2] => { results := [.lit (.bool false)], args := [d1, d2] }
  | _ => none }
def ConsequenceComparesWrongFalsely : Prop := consequenceComparesRow.holds Tryz.pinned (OpenSpec.ofChange consequenceComparesWrong)

/-- 'replevinlaw50.ConsequenceEquals': WHATEVER THE INPUT: true; the input reads as it did. -/
def consequenceEqualsSpec : ChangeSpec := { name := "consequenceEquals", fn := fun _ => fun
  | [d1, d2, d3] => { results := [.lit (.bool true)], args := [d1, d2, d3] }
  | _ => none }
def consequenceEqualsRow : OpenClaim := { program := "ytehmgeodpjmfaaagreatdoor", sum := "ade22bc1446c730ff9c5ede2b892f0540fc62a70392095abd1d8c7e43640cd6c", func := "replevin/replevinlaw50.ConsequenceEquals", spec := "consequenceEquals", inPlace := ["internal/bytealg.abigen_runtime_cmpstring"], unfollowed := true, recurses := true, named := ["strconv.ErrSyntax", "strconv.ErrRange", "internal/strconv.uint64pow10", "math/bits.deBruijn32tab", "math/bits.deBruijn64tab"], plainKeys := false, apart := false, laid := [("math/bits.deBruijn32tab", laid_math_bits_deBruijn32tab), ("math/bits.deBruijn64tab", laid_math_bits_deBruijn64tab), ("internal/strconv.uint64pow10", laid_internal_strconv_uint64pow10), ("strconv.ErrRange", laid_strconv_ErrRange), ("strconv.ErrSyntax", laid_strconv_ErrSyntax)] }
def ConsequenceEqualsSaid : Prop := consequenceEqualsRow.holds Tryz.pinned (OpenSpec.ofChange consequenceEqualsSpec)

/-- ITS FALSE NEIGHBOUR: 'it returns false'. Refute it at one input. -/
def consequenceEqualsWrong : ChangeSpec := { name := "consequenceEquals", fn := fun _ => fun
  | [d1, d2, d3] => { results := [.lit (.bool false)], args := [d1, d2, d3] }
  | _ => none }
def ConsequenceEqualsWrongFalsely : Prop := consequenceEqualsRow.holds Tryz.pinned (OpenSpec.ofChange consequenceEqualsWrong)

/-- 'replevinlaw50.ConsequenceNothing': WHATEVER THE INPUT: true; the input reads as it did. -/
def consequenceNothingSpec : ChangeSpec := { name := "consequenceNothing", fn := fun _ => fun
  | [d1, d2] => { results := [.lit (.bool true)], args := [d1, d2] }
  | _ => none }
def consequenceNothingRow : OpenClaim := { program := "ytehmgeodpjmfaaagreatdoor", sum := "ade22bc1446c730ff9c5ede2b892f0540fc62a70392095abd1d8c7e43640cd6c", func := "replevin/replevinlaw50.ConsequenceNothing", spec := "consequenceNothing", inPlace := ["internal/bytealg.abigen_runtime_cmpstring"], unfollowed := true, recurses := true, named := ["strconv.ErrSyntax", "strconv.ErrRange", "internal/strconv.uint64pow10", "math/bits.deBruijn32tab", "math/bits.deBruijn64tab"], plainKeys := false, apart := false, laid := [("math/bits.deBruijn32tab", laid_math_bits_deBruijn32tab), ("math/bits.deBruijn64tab", laid_math_bits_deBruijn64tab), ("internal/strconv.uint64pow10", laid_internal_strconv_uint64pow10), ("strconv.ErrRange", laid_strconv_ErrRange), ("strconv.ErrSyntax", laid_strconv_ErrSyntax)] }
def ConsequenceNothingSaid : Prop := consequenceNothingRow.holds Tryz.pinned (OpenSpec.ofChange consequenceNothingSpec)

/-- ITS FALSE NEIGHBOUR: 'it returns false'. Refute it at one input. -/
def consequenceNothingWrong : ChangeSpec := { name := "consequenceNothing", fn := fun _ => fun
  | [d1, d2] => { results := [.lit (.bool false)], args := [d1, d2] }
  | _ => none }
def ConsequenceNothingWrongFalsely : Prop := consequenceNothingRow.holds Tryz.pinned (OpenSpec.ofChange consequenceNothingWrong)

/-- 'replevinlaw50.ConsequenceCounts': WHATEVER THE INPUT: true; the input reads as it did. -/
def consequenceCountsSpec : ChangeSpec := { name := "consequenceCounts", fn := fun _ => fun
  | [d1, d2] => { results := [.lit (.bool true)], args := [d1, d2] }
  | _ => none }
def consequenceCountsRow : OpenClaim := { program := "ytehmgeodpjmfaaagreatdoor", sum := "ade22bc1446c730ff9c5ede2b892f0540fc62a70392095abd1d8c7e43640cd6c", func := "replevin/replevinlaw50.ConsequenceCounts", spec := "consequenceCounts", inPlace := ["internal/bytealg.abigen_runtime_cmpstring"], unfollowed := true, recurses := true, named := ["strconv.ErrSyntax", "strconv.ErrRange", "internal/strconv.uint64pow10", "math/bits.deBruijn32tab", "math/bits.deBruijn64tab"], plainKeys := false, apart := false, laid := [("math/bits.deBruijn32tab", laid_math_bits_deBruijn32tab), ("math/bits.deBruijn64tab", laid_math_bits_deBruijn64tab), ("internal/strconv.uint64pow10", laid_internal_strconv_uint64pow10), ("strconv.ErrRange", laid_strconv_ErrRange), ("strconv.ErrSyntax", laid_strconv_ErrSyntax)] }
def ConsequenceCountsSaid : Prop := consequenceCountsRow.holds Tryz.pinned (OpenSpec.ofChange consequenceCountsSpec)

/-- ITS FALSE NEIGHBOUR: 'it returns false'. Refute it at one input. -/
def consequenceCountsWrong : ChangeSpec := { name := "consequenceCounts", fn := fun _ => fun
  | [d1, d2] => { results := [.lit (.bool false)], args := [d1, d2] }
  | _ => none }
def ConsequenceCountsWrongFalsely : Prop := consequenceCountsRow.holds Tryz.pinned (OpenSpec.ofChange consequenceCountsWrong)

/-- 'replevinlaw50.ConsequenceErrors': WHATEVER THE INPUT: true; the input reads as it did. -/
def consequenceErrorsSpec : ChangeSpec := { name := "consequenceErrors", fn := fun _ => fun
  | [d1, d2] => { results := [.lit (.bool true)], args := [d1, d2] }
  | _ => none }
def consequenceErrorsRow : OpenClaim := { program := "ytehmgeodpjmfaaagreatdoor", sum := "ade22bc1446c730ff9c5ede2b892f0540fc62a70392095abd1d8c7e43640cd6c", func := "replevin/replevinlaw50.ConsequenceErrors", spec := "consequenceErrors", inPlace := ["internal/bytealg.abigen_runtime_cmpstring"], unfollowed := true, recurses := true, named := ["strconv.ErrSyntax", "strconv.ErrRange", "internal/strconv.uint64pow10", "math/bits.deBruijn32tab", "math/bits.deBruijn64tab"], plainKeys := false, apart := false, laid := [("math/bits.deBruijn32tab", laid_math_bits_deBruijn32tab), ("math/bits.deBruijn64tab", laid_math_bits_deBruijn64tab), ("internal/strconv.uint64pow10", laid_internal_strconv_uint64pow10), ("strconv.ErrRange", laid_strconv_ErrRange), ("strconv.ErrSyntax", laid_strconv_ErrSyntax)] }
def ConsequenceErrorsSaid : Prop := consequenceErrorsRow.holds Tryz.pinned (OpenSpec.ofChange consequenceErrorsSpec)

/-- ITS FALSE NEIGHBOUR: 'it returns false'. Refute it at one input. -/
def consequenceErrorsWrong : ChangeSpec := { name := "consequenceErrors", fn := fun _ => fun
  | [d1, d2] => { results := [.lit (.bool false)], args := [d1, d2] }
  | _ => none }
def ConsequenceErrorsWrongFalsely : Prop := consequenceErrorsRow.holds Tryz.pinned (OpenSpec.ofChange consequenceErrorsWrong)

/-- 'replevinlaw50.ConsequenceChains': WHATEVER THE INPUT: true; the input reads as it did. -/
def consequenceChainsSpec : ChangeSpec := { name := "consequenceChains", fn := fun _ => fun
  | [d1, d2, d3] => { results := [.lit (.bool true)], args := [d1, d2, d3] }
  | _ => none }
def consequenceChainsRow : OpenClaim := { program := "ytehmgeodpjmfaaagreatdoor", sum := "ade22bc1446c730ff9c5ede2b892f0540fc62a70392095abd1d8c7e43640cd6c", func := "replevin/replevinlaw50.ConsequenceChains", spec := "consequenceChains", inPlace := ["internal/bytealg.abigen_runtime_cmpstring"], unfollowed := true, recurses := true, named := ["strconv.ErrSyntax", "strconv.ErrRange", "internal/strconv.uint64pow10", "math/bits.deBruijn32tab", "math/bits.deBruijn64tab"], plainKeys := false, apart := false, laid := [("math/bits.deBruijn32tab", laid_math_bits_deBruijn32tab), ("math/bits.deBruijn64tab", laid_math_bits_deBruijn64tab), ("internal/strconv.uint64pow10", laid_internal_strconv_uint64pow10), ("strconv.ErrRange", laid_strconv_ErrRange), ("strconv.ErrSyntax", laid_strconv_ErrSyntax)] }
def ConsequenceChainsSaid : Prop := consequenceChainsRow.holds Tryz.pinned (OpenSpec.ofChange consequenceChainsSpec)

/-- ITS FALSE NEIGHBOUR: 'it returns false'. Refute it at one input. -/
def consequenceChainsWrong : ChangeSpec := { name := "consequenceChains", fn := fun _ => fun
  | [d1, d2, d3] => { results := [.lit (.bool false)], args := [d1, d2, d3] }
  | _ => none }
def ConsequenceChainsWrongFalsely : Prop := consequenceChainsRow.holds Tryz.pinned (OpenSpec.ofChange consequenceChainsWrong)

/- THE SECOND FORM. 'bulk': how many values and letters a reading holds, each counted each time it is reached (what is shared counts as often as it is met; a slice's spare places count too). A statement '..UptoSaid' is the law's where the arguments, and the package variables that the reading takes, are together of bulk at most 1048576: NARROWER than '..Said'. Prove '..Said' where nothing that the law and all that it calls make is longer than what came in: it says more and counts as full. Else prove '..UptoSaid'. A law counts once. -/
mutual
def uptoBulk {H : Type} : DataW H → Nat
  | .lit (.string bytes) => bytes.length + 1
  | .lit _ => 1
  | .nil => 1
  | .ptr d => uptoBulk d + 1
  | .slice elems spare => uptoBulkAll elems + uptoBulkAll spare + 1
  | .agg parts => uptoBulkAll parts + 1
  | .iface _ d => uptoBulk d + 1
  | .map entries => uptoBulkEntries entries + 1
  | .held _ => 1
def uptoBulkAll {H : Type} : List (DataW H) → Nat
  | [] => 0
  | d :: r => uptoBulk d + uptoBulkAll r
def uptoBulkEntries {H : Type} : List (Lit × DataW H) → Nat
  | [] => 0
  | x :: r => uptoBulkEntry x + uptoBulkEntries r
def uptoBulkEntry {H : Type} : Lit × DataW H → Nat
  | (.string bytes, d) => bytes.length + uptoBulk d + 1
  | (_, d) => uptoBulk d + 1
 end
def uptoSmall : (H : Type) → List (DataW H) → Bool := fun _ ds => decide (uptoBulkAll ds ≤ 1048576)
def OpenSpec.upto (s : _root_.Go.ChangeSpec) : _root_.Go.OpenSpec := { _root_.Go.OpenSpec.ofChange s with cond := some uptoSmall }

/-- 'replevinlaw50.ConsequencePlaces', WHERE WHAT IT READS IS OF BULK AT MOST 1048576: true; the input reads as it did. -/
def consequencePlacesUptoRow : OpenClaim := { program := "ytehmgeodpjmfaaagreatdoor", sum := "ade22bc1446c730ff9c5ede2b892f0540fc62a70392095abd1d8c7e43640cd6c", func := "replevin/replevinlaw50.ConsequencePlaces", spec := "consequencePlaces", inPlace := ["internal/bytealg.abigen_runtime_cmpstring"], unfollowed := true, recurses := true, named := ["strconv.ErrSyntax", "strconv.ErrRange", "internal/strconv.uint64pow10", "math/bits.deBruijn32tab", "math/bits.deBruijn64tab"], plainKeys := false, apart := false, laid := [("math/bits.deBruijn32tab", laid_math_bits_deBruijn32tab), ("math/bits.deBruijn64tab", laid_math_bits_deBruijn64tab), ("internal/strconv.uint64pow10", laid_internal_strconv_uint64pow10), ("strconv.ErrRange", laid_strconv_ErrRange), ("strconv.ErrSyntax", laid_strconv_ErrSyntax)], narrowed := true }
def ConsequencePlacesUptoSaid : Prop := consequencePlacesUptoRow.holds Tryz.pinned (OpenSpec.upto consequencePlacesSpec)

/-- 'replevinlaw50.ConsequenceCompares', WHERE WHAT IT READS IS OF BULK AT MOST 1048576: true; the input reads as it did. -/
def consequenceComparesUptoRow : OpenClaim := { program := "ytehmgeodpjmfaaagreatdoor", sum := "ade22bc1446c730ff9c5ede2b892f0540fc62a70392095abd1d8c7e43640cd6c", func := "replevin/replevinlaw50.ConsequenceCompares", spec := "consequenceCompares", inPlace := ["internal/bytealg.abigen_runtime_cmpstring"], unfollowed := true, recurses := true, named := ["strconv.ErrSyntax", "strconv.ErrRange", "internal/strconv.uint64pow10", "math/bits.deBruijn32tab", "math/bits.deBruijn64tab"], plainKeys := false, apart := false, laid := [("math/bits.deBruijn32tab", laid_math_bits_deBruijn32tab), ("math/bits.deBruijn64tab", laid_math_bits_deBruijn64tab), ("internal/strconv.uint64pow10", laid_internal_strconv_uint64pow10), ("strconv.ErrRange", laid_strconv_ErrRange), ("strconv.ErrSyntax", laid_strconv_ErrSyntax)], narrowed := true }
def ConsequenceComparesUptoSaid : Prop := consequenceComparesUptoRow.holds Tryz.pinned (OpenSpec.upto consequenceComparesSpec)

/-- 'replevinlaw50.ConsequenceEquals', WHERE WHAT IT READS IS OF BULK AT MOST 1048576: true; the input reads as it did. -/
def consequenceEqualsUptoRow : OpenClaim := { program := "ytehmgeodpjmfaaagreatdoor", sum := "ade22bc1446c730ff9c5ede2b892f0540fc62a70392095abd1d8c7e43640cd6c", func := "replevin/replevinlaw50.ConsequenceEquals", spec := "consequenceEquals", inPlace := ["internal/bytealg.abigen_runtime_cmpstring"], unfollowed := true, recurses := true, named := ["strconv.ErrSyntax", "strconv.ErrRange", "internal/strconv.uint64pow10", "math/bits.deBruijn32tab", "math/bits.deBruijn64tab"], plainKeys := false, apart := false, laid := [("math/bits.deBruijn32tab", laid_math_bits_deBruijn32tab), ("math/bits.deBruijn64tab", laid_math_bits_deBruijn64tab), ("internal/strconv.uint64pow10", laid_internal_strconv_uint64pow10), ("strconv.ErrRange", laid_strconv_ErrRange), ("strconv.ErrSyntax", laid_strconv_ErrSyntax)], narrowed := true }
def ConsequenceEqualsUptoSaid : Prop := consequenceEqualsUptoRow.holds Tryz.pinned (OpenSpec.upto consequenceEqualsSpec)

/-- 'replevinlaw50.ConsequenceNothing', WHERE WHAT IT READS IS OF BULK AT MOST 1048576: true; the input reads as it did. -/
def consequenceNothingUptoRow : OpenClaim := { program := "ytehmgeodpjmfaaagreatdoor", sum := "ade22bc1446c730ff9c5ede2b892f0540fc62a70392095abd1d8c7e43640cd6c", func := "replevin/replevinlaw50.ConsequenceNothing", spec := "consequenceNothing", inPlace := ["internal/bytealg.abigen_runtime_cmpstring"], unfollowed := true, recurses := true, named := ["strconv.ErrSyntax", "strconv.ErrRange", "internal/strconv.uint64pow10", "math/bits.deBruijn32tab", "math/bits.deBruijn64tab"], plainKeys := false, apart := false, laid := [("math/bits.deBruijn32tab", laid_math_bits_deBruijn32tab), ("math/bits.deBruijn64tab", laid_math_bits_deBruijn64tab), ("internal/strconv.uint64pow10", laid_internal_strconv_uint64pow10), ("strconv.ErrRange", laid_strconv_ErrRange), ("strconv.ErrSyntax", laid_strconv_ErrSyntax)], narrowed := true }
def ConsequenceNothingUptoSaid : Prop := consequenceNothingUptoRow.holds Tryz.pinned (OpenSpec.upto consequenceNothingSpec)

/-- 'replevinlaw50.ConsequenceCounts', WHERE WHAT IT READS IS OF BULK AT MOST 1048576: true; the input reads as it did. -/
def consequenceCountsUptoRow : OpenClaim := { program := "ytehmgeodpjmfaaagreatdoor", sum := "ade22bc1446c730ff9c5ede2b892f0540fc62a70392095abd1d8c7e43640cd6c", func := "replevin/replevinlaw50.ConsequenceCounts", spec := "consequenceCounts", inPlace := ["internal/bytealg.abigen_runtime_cmpstring"], unfollowed := true, recurses := true, named := ["strconv.ErrSyntax", "strconv.ErrRange", "internal/strconv.uint64pow10", "math/bits.deBruijn32tab", "math/bits.deBruijn64tab"], plainKeys := false, apart := false, laid := [("math/bits.deBruijn32tab", laid_math_bits_deBruijn32tab), ("math/bits.deBruijn64tab", laid_math_bits_deBruijn64tab), ("internal/strconv.uint64pow10", laid_internal_strconv_uint64pow10), ("strconv.ErrRange", laid_strconv_ErrRange), ("strconv.ErrSyntax", laid_strconv_ErrSyntax)], narrowed := true }
def ConsequenceCountsUptoSaid : Prop := consequenceCountsUptoRow.holds Tryz.pinned (OpenSpec.upto consequenceCountsSpec)

/-- 'replevinlaw50.ConsequenceErrors', WHERE WHAT IT READS IS OF BULK AT MOST 1048576: true; the input reads as it did. -/
def consequenceErrorsUptoRow : OpenClaim := { program := "ytehmgeodpjmfaaagreatdoor", sum := "ade22bc1446c730ff9c5ede2b892f0540fc62a70392095abd1d8c7e43640cd6c", func := "replevin/replevinlaw50.ConsequenceErrors", spec := "consequenceErrors", inPlace := ["internal/bytealg.abigen_runtime_cmpstring"], unfollowed := true, recurses := true, named := ["strconv.ErrSyntax", "strconv.ErrRange", "internal/strconv.uint64pow10", "math/bits.deBruijn32tab", "math/bits.deBruijn64tab"], plainKeys := false, apart := false, laid := [("math/bits.deBruijn32tab", laid_math_bits_deBruijn32tab), ("math/bits.deBruijn64tab", laid_math_bits_deBruijn64tab), ("internal/strconv.uint64pow10", laid_internal_strconv_uint64pow10), ("strconv.ErrRange", laid_strconv_ErrRange), ("strconv.ErrSyntax", laid_strconv_ErrSyntax)], narrowed := true }
def ConsequenceErrorsUptoSaid : Prop := consequenceErrorsUptoRow.holds Tryz.pinned (OpenSpec.upto consequenceErrorsSpec)

/-- 'replevinlaw50.ConsequenceChains', WHERE WHAT IT READS IS OF BULK AT MOST 1048576: true; the input reads as it did. -/
def consequenceChainsUptoRow : OpenClaim := { program := "ytehmgeodpjmfaaagreatdoor", sum := "ade22bc1446c730ff9c5ede2b892f0540fc62a70392095abd1d8c7e43640cd6c", func := "replevin/replevinlaw50.ConsequenceChains", spec := "consequenceChains", inPlace := ["internal/bytealg.abigen_runtime_cmpstring"], unfollowed := true, recurses := true, named := ["strconv.ErrSyntax", "strconv.ErrRange", "internal/strconv.uint64pow10", "math/bits.deBruijn32tab", "math/bits.deBruijn64tab"], plainKeys := false, apart := false, laid := [("math/bits.deBruijn32tab", laid_math_bits_deBruijn32tab), ("math/bits.deBruijn64tab", laid_math_bits_deBruijn64tab), ("internal/strconv.uint64pow10", laid_internal_strconv_uint64pow10), ("strconv.ErrRange", laid_strconv_ErrRange), ("strconv.ErrSyntax", laid_strconv_ErrSyntax)], narrowed := true }
def ConsequenceChainsUptoSaid : Prop := consequenceChainsUptoRow.holds Tryz.pinned (OpenSpec.upto consequenceChainsSpec)

end Rows
end Go.Proofs.YtehmgeodpjmfaaaGreatDoor
