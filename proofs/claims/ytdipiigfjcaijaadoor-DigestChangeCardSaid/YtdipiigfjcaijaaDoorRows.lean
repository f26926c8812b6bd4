/-
  NARROWER THAN 'FOR EVERY INPUT', by the rows' own cells (each row's printed sentence says how): DigestTells: laid · DigestChange: laid · DigestNumbers: laid · DigestHashes: laid · DigestBelow: laid · DigestAlone: laid · DigestParents: laid.
  DERIVED. THE GIVEN ROWS OF THIS SEAT. 7 by the template 'for every input the law returns true; each argument reads behind the call as it read before'; 0 by the template 'total and deterministic' (their statements: YtdipiigfjcaijaaDoorTotals.lean).
  GIVEN WITH THE SEED: the statements are not yours to turn. If you find one false, say at which input.
  Laid BY PROGRAM, IN A SANDBOX (cutbox-rows.mjs): the forced cells as the released guide's own fill.sh prints them over the translation 39942d0e5247aae5… (all of the seat's roots in one cut). By AI agents, Wed Nov 11 2026. No macro, syntax, notation, axiom, sorry.
-/
import Derived.Test.YtdipiigfjcaijaaDoorChecked
import GoSem.Claim
import GoSem.ClaimJoined
import GoSem.ClaimMapViews
import Derived.JoinedTies
import Derived.KernelRfl
namespace Go.Proofs.YtdipiigfjcaijaaDoor
/- THE CELL 'sum', in the pinned program and in every row, IS THE sha256 OF THE DUMP (.gsa) THAT YtdipiigfjcaijaaDoorProg.lean LOADS. Nothing in Lean hashes anything: it is a label: what it is worth is what the hold of that sum in a sandbox is worth. -/
noncomputable def Tryd.pinned : Pinned := { name := "ytdipiigfjcaijaadoor", sum := "39942d0e5247aae5a2f56e48bad5d173056604b08e11946f705c9ea5083fd2bd", checked := Tryd.checked }
namespace Rows
def none {H : Type} : Left H := { results := [], args := [] }

/- WHAT THE LISTED PACKAGE-LEVEL VARIABLES READ AS WHEN THE CALL BEGINS. Each datum BY PROGRAM (the guide's laid-datum.mjs) off the statement by which the dump's own 'gosem.cut.vars' lays the variable. In a bare row this is a premise. The card (YtdipiigfjcaijaaDoorCards.lean) ties it to the program's text. -/
def laid_math_bits_deBruijn32tab {H : Type} : DataW H := .agg [.lit (.int .u8 0), .lit (.int .u8 1), .lit (.int .u8 28), .lit (.int .u8 2), .lit (.int .u8 29), .lit (.int .u8 14), .lit (.int .u8 24), .lit (.int .u8 3), .lit (.int .u8 30), .lit (.int .u8 22), .lit (.int .u8 20), .lit (.int .u8 15), .lit (.int .u8 25), .lit (.int .u8 17), .lit (.int .u8 4), .lit (.int .u8 8), .lit (.int .u8 31), .lit (.int .u8 27), .lit (.int .u8 13), .lit (.int .u8 23), .lit (.int .u8 21), .lit (.int .u8 19), .lit (.int .u8 16), .lit (.int .u8 7), .lit (.int .u8 26), .lit (.int .u8 12), .lit (.int .u8 18), .lit (.int .u8 6), .lit (.int .u8 11), .lit (.int .u8 5), .lit (.int .u8 10), .lit (.int .u8 9)]
def laid_math_bits_deBruijn64tab {H : Type} : DataW H := .agg [.lit (.int .u8 0), .lit (.int .u8 1), .lit (.int .u8 56), .lit (.int .u8 2), .lit (.int .u8 57), .lit (.int .u8 49), .lit (.int .u8 28), .lit (.int .u8 3), .lit (.int .u8 61), .lit (.int .u8 58), .lit (.int .u8 42), .lit (.int .u8 50), .lit (.int .u8 38), .lit (.int .u8 29), .lit (.int .u8 17), .lit (.int .u8 4), .lit (.int .u8 62), .lit (.int .u8 47), .lit (.int .u8 59), .lit (.int .u8 36), .lit (.int .u8 45), .lit (.int .u8 43), .lit (.int .u8 51), .lit (.int .u8 22), .lit (.int .u8 53), .lit (.int .u8 39), .lit (.int .u8 33), .lit (.int .u8 30), .lit (.int .u8 24), .lit (.int .u8 18), .lit (.int .u8 12), .lit (.int .u8 5), .lit (.int .u8 63), .lit (.int .u8 55), .lit (.int .u8 48), .lit (.int .u8 27), .lit (.int .u8 60), .lit (.int .u8 41), .lit (.int .u8 37), .lit (.int .u8 16), .lit (.int .u8 46), .lit (.int .u8 35), .lit (.int .u8 44), .lit (.int .u8 21), .lit (.int .u8 52), .lit (.int .u8 32), .lit (.int .u8 23), .lit (.int .u8 11), .lit (.int .u8 54), .lit (.int .u8 26), .lit (.int .u8 40), .lit (.int .u8 15), .lit (.int .u8 34), .lit (.int .u8 20), .lit (.int .u8 31), .lit (.int .u8 10), .lit (.int .u8 25), .lit (.int .u8 14), .lit (.int .u8 19), .lit (.int .u8 9), .lit (.int .u8 13), .lit (.int .u8 8), .lit (.int .u8 7), .lit (.int .u8 6)]
def laid_internal_strconv_uint64pow10 {H : Type} : DataW H := .agg [.lit (.int .u64 1), .lit (.int .u64 10), .lit (.int .u64 100), .lit (.int .u64 1000), .lit (.int .u64 10000), .lit (.int .u64 100000), .lit (.int .u64 1000000), .lit (.int .u64 10000000), .lit (.int .u64 100000000), .lit (.int .u64 1000000000), .lit (.int .u64 10000000000), .lit (.int .u64 100000000000), .lit (.int .u64 1000000000000), .lit (.int .u64 10000000000000), .lit (.int .u64 100000000000000), .lit (.int .u64 1000000000000000), .lit (.int .u64 10000000000000000), .lit (.int .u64 100000000000000000), .lit (.int .u64 1000000000000000000), .lit (.int .u64 10000000000000000000)]

/-- 'conclavelaw05.DigestTells': WHATEVER THE INPUT: true; the input reads as it did. -/
def digestTellsSpec : ChangeSpec := { name := "digestTells", fn := fun _ => fun
  | [d1, d2] => { results := [.lit (.bool true)], args := [d1, d2] }
  | _ => none }
def digestTellsRow : OpenClaim := { program := "ytdipiigfjcaijaadoor", sum := "39942d0e5247aae5a2f56e48bad5d173056604b08e11946f705c9ea5083fd2bd", func := "conclave/conclavelaw05.DigestTells", spec := "digestTells", recurses := true, named := ["math/bits.deBruijn32tab", "math/bits.deBruijn64tab", "internal/strconv.uint64pow10"], plainKeys := false, apart := false, laid := [("math/bits.deBruijn32tab", laid_math_bits_deBruijn32tab), ("math/bits.deBruijn64tab", laid_math_bits_deBruijn64tab), ("internal/strconv.uint64pow10", laid_internal_strconv_uint64pow10)] }
def DigestTellsSaid : Prop := digestTellsRow.holds Tryd.pinned (OpenSpec.ofChange digestTellsSpec)

/-- ITS FALSE NEIGHBOUR: 'it returns false'. Refute it at one input. -/
def digestTellsWrong : ChangeSpec := { name := "digestTells", fn := fun _ => fun
  | [d1, d2] => { results := [.lit (.bool false)], args := [d1, d2] }
  | _ => none }
def DigestTellsWrongFalsely : Prop := digestTellsRow.holds Tryd.pinned (OpenSpec.ofChange digestTellsWrong)

/-- 'conclavelaw05.DigestChange': WHATEVER THE INPUT: true; the input reads as it did. -/
def digestChangeSpec : ChangeSpec := { name := "digestChange", fn := fun _ => fun
  | [d1, d2, d3] => { results := [.lit (.bool true)], args := [d1, d2, d3] }
  | _ => none }
def digestChangeRow : OpenClaim := { program := "ytdipiigfjcaijaadoor", sum := "39942d0e5247aae5a2f56e48bad5d173056604b08e11946f705c9ea5083fd2bd", func := "conclave/conclavelaw05.DigestChange", spec := "digestChange", recurses := true, named := ["math/bits.deBruijn32tab", "math/bits.deBruijn64tab", "internal/strconv.uint64pow10"], plainKeys := false, apart := false, laid := [("math/bits.deBruijn32tab", laid_math_bits_deBruijn32tab), ("math/bits.deBruijn64tab", laid_math_bits_deBruijn64tab), ("internal/strconv.uint64pow10", laid_internal_strconv_uint64pow10)] }
def DigestChangeSaid : Prop := digestChangeRow.holds Tryd.pinned (OpenSpec.ofChange digestChangeSpec)

/-- ITS FALSE NEIGHBOUR: 'it returns false'. Refute it at one input. -/
def digestChangeWrong : ChangeSpec := { name := "digestChange", fn := fun _ => fun
  | [d1, d2, d3] => { results := [.lit (.bool false)], args := [d1, d2, d3] }
  | _ => none }
def DigestChangeWrongFalsely : Prop := digestChangeRow.holds Tryd.pinned (OpenSpec.ofChange digestChangeWrong)

/-- 'conclavelaw05.DigestNumbers': WHATEVER THE INPUT: true; the input reads as it did. -/
def digestNumbersSpec : ChangeSpec := { name := "digestNumbers", fn := fun _ => fun
  | [d1, d2] => { results := [.lit (.bool true)], args := [d1, d2] }
  | _ => none }
def digestNumbersRow : OpenClaim := { program := "ytdipiigfjcaijaadoor", sum := "39942d0e5247aae5a2f56e48bad5d173056604b08e11946f705c9ea5083fd2bd", func := "conclave/conclavelaw05.DigestNumbers", spec := "digestNumbers", recurses := true, named := ["math/bits.deBruijn32tab", "math/bits.deBruijn64tab", "internal/strconv.uint64pow10"], plainKeys := false, apart := false, laid := [("math/bits.deBruijn32tab", laid_math_bits_deBruijn32tab), ("math/bits.deBruijn64tab", laid_math_bits_deBruijn64tab), ("internal/strconv.uint64pow10", laid_internal_strconv_uint64pow10)] }
def DigestNumbersSaid : Prop := digestNumbersRow.holds Tryd.pinned (OpenSpec.ofChange digestNumbersSpec)

/-- ITS FALSE NEIGHBOUR: 'it returns false'. Refute it at one input. -/
def digestNumbersWrong : ChangeSpec := { name := "digestNumbers", fn := fun _ => fun
  | [d1, d2] => { results := [.lit (.bool false)], args := [d1, d2] }
  | _ => none }
def DigestNumbersWrongFalsely : Prop := digestNumbersRow.holds Tryd.pinned (OpenSpec.ofChange digestNumbersWrong)

/-- 'conclavelaw05.DigestHashes': WHATEVER THE INPUT: true; the input reads as it did. -/
def digestHashesSpec : ChangeSpec := { name := "digestHashes", fn := fun _ => fun
  | [d1, d2] => { results := [.lit (.bool true)], args := [d1, d2] }
  | _ => none }
def digestHashesRow : OpenClaim := { program := "ytdipiigfjcaijaadoor", sum := "39942d0e5247aae5a2f56e48bad5d173056604b08e11946f705c9ea5083fd2bd", func := "conclave/conclavelaw05.DigestHashes", spec := "digestHashes", recurses := true, named := ["math/bits.deBruijn32tab", "math/bits.deBruijn64tab", "internal/strconv.uint64pow10"], plainKeys := false, apart := false, laid := [("math/bits.deBruijn32tab", laid_math_bits_deBruijn32tab), ("math/bits.deBruijn64tab", laid_math_bits_deBruijn64tab), ("internal/strconv.uint64pow10", laid_internal_strconv_uint64pow10)] }
def DigestHashesSaid : Prop := digestHashesRow.holds Tryd.pinned (OpenSpec.ofChange digestHashesSpec)

/-- ITS FALSE NEIGHBOUR: 'it returns false'. Refute it at one input. -/
def digestHashesWrong : ChangeSpec := { name := "digestHashes", fn := fun _ => fun
  | [d1, d2] => { results := [.lit (.bool false)], args := [d1, d2] }
  | _ => none }
def DigestHashesWrongFalsely : Prop := digestHashesRow.holds Tryd.pinned (OpenSpec.ofChange digestHashesWrong)

/-- 'conclavelaw05.DigestBelow': WHATEVER THE INPUT: true; the input reads as it did. -/
def digestBelowSpec : ChangeSpec := { name := "digestBelow", fn := fun _ => fun
  | [d1, d2, d3] => { results := [.lit (.bool true)], args := [d1, d2, d3] }
  | _ => none }
def digestBelowRow : OpenClaim := { program := "ytdipiigfjcaijaadoor", sum := "39942d0e5247aae5a2f56e48bad5d173056604b08e11946f705c9ea5083fd2bd", func := "conclave/conclavelaw05.DigestBelow", spec := "digestBelow", unfollowed := true, recurses := true, named := ["math/bits.deBruijn32tab", "math/bits.deBruijn64tab", "internal/strconv.uint64pow10"], plainKeys := false, apart := false, laid := [("math/bits.deBruijn32tab", laid_math_bits_deBruijn32tab), ("math/bits.deBruijn64tab", laid_math_bits_deBruijn64tab), ("internal/strconv.uint64pow10", laid_internal_strconv_uint64pow10)] }
def DigestBelowSaid : Prop := digestBelowRow.holds Tryd.pinned (OpenSpec.ofChange digestBelowSpec)

/-- ITS FALSE NEIGHBOUR: 'it returns false'. Refute it at one input. -/
def digestBelowWrong : ChangeSpec := { name := "digestBelow", fn := fun _ => fun
  | [d1, d2, d3] => { results := [.lit (.bool false)], args := [d1, d2, d3] }
  | _ => none }
def DigestBelowWrongFalsely : Prop := digestBelowRow.holds Tryd.pinned (OpenSpec.ofChange digestBelowWrong)

/-- 'conclavelaw05.DigestAlone': WHATEVER THE INPUT: true; the input reads as it did. -/
def digestAloneSpec : ChangeSpec := { name := "digestAlone", fn := fun _ => fun
  | [d1, d2] => { results := [.lit (.bool true)], args := [d1, d2] }
  | _ => none }
def digestAloneRow : OpenClaim := { program := "ytdipiigfjcaijaadoor", sum := "39942d0e5247aae5a2f56e48bad5d173056604b08e11946f705c9ea5083fd2bd", func := "conclave/conclavelaw05.DigestAlone", spec := "digestAlone", unfollowed := true, recurses := true, named := ["math/bits.deBruijn32tab", "math/bits.deBruijn64tab", "internal/strconv.uint64pow10"], plainKeys := false, apart := false, laid := [("math/bits.deBruijn32tab", laid_math_bits_deBruijn32tab), ("math/bits.deBruijn64tab", laid_math_bits_deBruijn64tab), ("internal/strconv.uint64pow10", laid_internal_strconv_uint64pow10)] }
def DigestAloneSaid : Prop := digestAloneRow.holds Tryd.pinned (OpenSpec.ofChange digestAloneSpec)

/-- ITS FALSE NEIGHBOUR: 'it returns false'. Refute it at one input. -/
def digestAloneWrong : ChangeSpec := { name := "digestAlone", fn := fun _ => fun
  | [d1, d2] => { results := [.lit (.bool false)], args := [d1, d2] }
  | _ => none }
def DigestAloneWrongFalsely : Prop := digestAloneRow.holds Tryd.pinned (OpenSpec.ofChange digestAloneWrong)

/-- 'conclavelaw05.DigestParents': WHATEVER THE INPUT: true; the input reads as it did. -/
def digestParentsSpec : ChangeSpec := { name := "digestParents", fn := fun _ => fun
  | [d1, d2, d3] => { results := [.lit (.bool true)], args := [d1, d2, d3] }
  | _ => none }
def digestParentsRow : OpenClaim := { program := "ytdipiigfjcaijaadoor", sum := "39942d0e5247aae5a2f56e48bad5d173056604b08e11946f705c9ea5083fd2bd", func := "conclave/conclavelaw05.DigestParents", spec := "digestParents", unfollowed := true, recurses := true, named := ["math/bits.deBruijn32tab", "math/bits.deBruijn64tab", "internal/strconv.uint64pow10"], plainKeys := false, apart := false, laid := [("math/bits.deBruijn32tab", laid_math_bits_deBruijn32tab), ("math/bits.deBruijn64tab", laid_math_bits_deBruijn64tab), ("internal/strconv.uint64pow10", laid_internal_strconv_uint64pow10)] }
def DigestParentsSaid : Prop := digestParentsRow.holds Tryd.pinned (OpenSpec.ofChange digestParentsSpec)

/-- ITS FALSE NEIGHBOUR: 'it returns false'. Refute it at one input. -/
def digestParentsWrong : ChangeSpec := { name := "digestParents", fn := fun _ => fun
  | [d1, d2, d3] => { results := [.lit (.bool false)], args := [d1, d2, d3] }
  | _ => none }
def DigestParentsWrongFalsely : Prop := digestParentsRow.holds Tryd.pinned (OpenSpec.ofChange digestParentsWrong)

/- THE SECOND FORM. 'bulk': how many values and letters a reading holds, each counted each time it is reached (what is shared counts as often as it is met; a slice's spare places count too). A statement '..UptoSaid' is the law's where the arguments, and the package variables that the reading takes, are together of bulk at most 1048576: NARROWER than '..Said'. Prove '..Said' where nothing that the law and all that it calls make is longer than what came in: it says more and counts as full. Else prove '..UptoSaid'. A law counts once. -/
mutual
def uptoBulk {H : Type} : DataW H → Nat
  | .lit (.string bytes) => bytes.length + 1
  | .lit _ => 1
  | .nil => 1
  | .ptr d => uptoBulk d + 1
  | .slice elems spare => uptoBulkAll elems + uptoBulkAll spare + 1
  | .agg parts => uptoBulkAll parts + 1
  | .iface _ d => uptoBulk d + 1
  | .map entries => uptoBulkEntries entries + 1
  | .held _ => 1
def uptoBulkAll {H : Type} : List (DataW H) → Nat
  | [] => 0
  | d :: r => uptoBulk d + uptoBulkAll r
def uptoBulkEntries {H : Type} : List (Lit × DataW H) → Nat
  | [] => 0
  | x :: r => uptoBulkEntry x + uptoBulkEntries r
def uptoBulkEntry {H : Type} : Lit × DataW H → Nat
  | (.string bytes, d) => bytes.length + uptoBulk d + 1
  | (_, d) => uptoBulk d + 1
 end
def uptoSmall : (H : Type) → List (DataW H) → Bool := fun _ ds => decide (uptoBulkAll ds ≤ 1048576)
def OpenSpec.upto (s : _root_.Go.ChangeSpec) : _root_.Go.OpenSpec := { _root_.Go.OpenSpec.ofChange s with cond := some uptoSmall }

/-- 'conclavelaw05.DigestTells', WHERE WHAT IT READS IS OF BULK AT MOST 1048576: true; the input reads as it did. -/
def digestTellsUptoRow : OpenClaim := { program := "ytdipiigfjcaijaadoor", sum := "39942d0e5247aae5a2f56e48bad5d173056604b08e11946f705c9ea5083fd2bd", func := "conclave/conclavelaw05.DigestTells", spec := "digestTells", recurses := true, named := ["math/bits.deBruijn32tab", "math/bits.deBruijn64tab", "internal/strconv.uint64pow10"], plainKeys := false, apart := false, laid := [("math/bits.deBruijn32tab", laid_math_bits_deBruijn32tab), ("math/bits.deBruijn64tab", laid_math_bits_deBruijn64tab), ("internal/strconv.uint64pow10", laid_internal_strconv_uint64pow10)], narrowed := true }
def DigestTellsUptoSaid : Prop := digestTellsUptoRow.holds Tryd.pinned (OpenSpec.upto digestTellsSpec)

/-- 'conclavelaw05.DigestChange', WHERE WHAT IT READS IS OF BULK AT MOST 1048576: true; the input reads as it did. -/
def digestChangeUptoRow : OpenClaim := { program := "ytdipiigfjcaijaadoor", sum := "39942d0e5247aae5a2f56e48bad5d173056604b08e11946f705c9ea5083fd2bd", func := "conclave/conclavelaw05.DigestChange", spec := "digestChange", recurses := true, named := ["math/bits.deBruijn32tab", "math/bits.deBruijn64tab", "internal/strconv.uint64pow10"], plainKeys := false, apart := false, laid := [("math/bits.deBruijn32tab", laid_math_bits_deBruijn32tab), ("math/bits.deBruijn64tab", laid_math_bits_deBruijn64tab), ("internal/strconv.uint64pow10", laid_internal_strconv_uint64pow10)], narrowed := true }
def DigestChangeUptoSaid : Prop := digestChangeUptoRow.holds Tryd.pinned (OpenSpec.upto digestChangeSpec)

/-- 'conclavelaw05.DigestNumbers', WHERE WHAT IT READS IS OF BULK AT MOST 1048576: true; the input reads as it did. -/
def digestNumbersUptoRow : OpenClaim := { program := "ytdipiigfjcaijaadoor", sum := "39942d0e5247aae5a2f56e48bad5d173056604b08e11946f705c9ea5083fd2bd", func := "conclave/conclavelaw05.DigestNumbers", spec := "digestNumbers", recurses := true, named := ["math/bits.deBruijn32tab", "math/bits.deBruijn64tab", "internal/strconv.uint64pow10"], plainKeys := false, apart := false, laid := [("math/bits.deBruijn32tab", laid_math_bits_deBruijn32tab), ("math/bits.deBruijn64tab", laid_math_bits_deBruijn64tab), ("internal/strconv.uint64pow10", laid_internal_strconv_uint64pow10)], narrowed := true }
def DigestNumbersUptoSaid : Prop := digestNumbersUptoRow.holds Tryd.pinned (OpenSpec.upto digestNumbersSpec)

/-- 'conclavelaw05.DigestHashes', WHERE WHAT IT READS IS OF BULK AT MOST 1048576: true; the input reads as it did. -/
def digestHashesUptoRow : OpenClaim := { program := "ytdipiigfjcaijaadoor", sum := "39942d0e5247aae5a2f56e48bad5d173056604b08e11946f705c9ea5083fd2bd", func := "conclave/conclavelaw05.DigestHashes", spec := "digestHashes", recurses := true, named := ["math/bits.deBruijn32tab", "math/bits.deBruijn64tab", "internal/strconv.uint64pow10"], plainKeys := false, apart := false, laid := [("math/bits.deBruijn32tab", laid_math_bits_deBruijn32tab), ("math/bits.deBruijn64tab", laid_math_bits_deBruijn64tab), ("internal/strconv.uint64pow10", laid_internal_strconv_uint64pow10)], narrowed := true }
def DigestHashesUptoSaid : Prop := digestHashesUptoRow.holds Tryd.pinned (OpenSpec.upto digestHashesSpec)

/-- 'conclavelaw05.DigestBelow', WHERE WHAT IT READS IS OF BULK AT MOST 1048576: true; the input reads as it did. -/
def digestBelowUptoRow : OpenClaim := { program := "ytdipiigfjcaijaadoor", sum := "39942d0e5247aae5a2f56e48bad5d173056604b08e11946f705c9ea5083fd2bd", func := "conclave/conclavelaw05.DigestBelow", spec := "digestBelow", unfollowed := true, recurses := true, named := ["math/bits.deBruijn32tab", "math/bits.deBruijn64tab", "internal/strconv.uint64pow10"], plainKeys := false, apart := false, laid := [("math/bits.deBruijn32tab", laid_math_bits_deBruijn32tab), ("math/bits.deBruijn64tab", laid_math_bits_deBruijn64tab), ("internal/strconv.uint64pow10", laid_internal_strconv_uint64pow10)], narrowed := true }
def DigestBelowUptoSaid : Prop := digestBelowUptoRow.holds Tryd.pinned (OpenSpec.upto digestBelowSpec)

/-- 'conclavelaw05.DigestAlone', WHERE WHAT IT READS IS OF BULK AT MOST 1048576: true; the input reads as it did. -/
def digestAloneUptoRow : OpenClaim := { program := "ytdipiigfjcaijaadoor", sum := "39942d0e5247aae5a2f56e48bad5d173056604b08e11946f705c9ea5083fd2bd", func := "conclave/conclavelaw05.DigestAlone", spec := "digestAlone", unfollowed := true, recurses := true, named := ["math/bits.deBruijn32tab", "math/bits.deBruijn64tab", "internal/strconv.uint64pow10"], plainKeys := false, apart := false, laid := [("math/bits.deBruijn32tab", laid_math_bits_deBruijn32tab), ("math/bits.deBruijn64tab", laid_math_bits_deBruijn64tab), ("internal/strconv.uint64pow10", laid_internal_strconv_uint64pow10)], narrowed := true }
def DigestAloneUptoSaid : Prop := digestAloneUptoRow.holds Tryd.pinned (OpenSpec.upto digestAloneSpec)

/-- 'conclavelaw05.DigestParents', WHERE WHAT IT READS IS OF BULK AT MOST 1048576: true; the input reads as it did. -/
def digestParentsUptoRow : OpenClaim := { program := "ytdipiigfjcaijaadoor", sum := "39942d0e5247aae5a2f56e48bad5d173056604b08e11946f705c9ea5083fd2bd", func := "conclave/conclavelaw05.DigestParents", spec := "digestParents", unfollowed := true, recurses := true, named := ["math/bits.deBruijn32tab", "math/bits.deBruijn64tab", "internal/strconv.uint64pow10"], plainKeys := false, apart := false, laid := [("math/bits.deBruijn32tab", laid_math_bits_deBruijn32tab), ("math/bits.deBruijn64tab", laid_math_bits_deBruijn64tab), ("internal/strconv.uint64pow10", laid_internal_strconv_uint64pow10)], narrowed := true }
def DigestParentsUptoSaid : Prop := digestParentsUptoRow.holds Tryd.pinned (OpenSpec.upto digestParentsSpec)

end Rows
end Go.Proofs.YtdipiigfjcaijaaDoor
