/-
  NARROWER THAN 'FOR EVERY INPUT', by the rows' own cells (each row's printed sentence says how): HeapPathUp: laid · HeapPlaces: laid · HeapFamily: laid · HeapPaths: laid · HeapCovers: laid · HeapCommonLow: laid.
  DERIVED. THE GIVEN ROWS OF THIS SEAT. 6 by the template 'for every input the law returns true; each argument reads behind the call as it read before'; 0 by the template 'total and deterministic' (their statements: YtmioejkhhcjfpaaDoorTotals.lean).
  GIVEN WITH THE SEED: the statements are not yours to turn. If you find one false, say at which input.
  Laid BY PROGRAM, IN A SANDBOX (cutbox-rows.mjs): the forced cells as the released guide's own fill.sh prints them over the translation 1db6ed23ab29cbf2… (all of the seat's roots in one cut). By AI agents, Wed Nov 11 2026. No macro, syntax, notation, axiom, sorry.
-/
import Derived.Test.YtmioejkhhcjfpaaDoorChecked
import GoSem.Claim
import GoSem.ClaimJoined
import GoSem.ClaimMapViews
import Derived.JoinedTies
import Derived.KernelRfl
namespace Go.Proofs.YtmioejkhhcjfpaaDoor
/- THE CELL 'sum', in the pinned program and in every row, IS THE sha256 OF THE DUMP (.gsa) THAT YtmioejkhhcjfpaaDoorProg.lean LOADS. Nothing in Lean hashes anything: it is a label: what it is worth is what the hold of that sum in a sandbox is worth. -/
noncomputable def Tryd.pinned : Pinned := { name := "ytmioejkhhcjfpaadoor", sum := "1db6ed23ab29cbf2b90918e54f2e6e8562fda097d076017f7247af72e5fa1b88", checked := Tryd.checked }
namespace Rows
def none {H : Type} : Left H := { results := [], args := [] }

/- WHAT THE LISTED PACKAGE-LEVEL VARIABLES READ AS WHEN THE CALL BEGINS. Each datum BY PROGRAM (the guide's laid-datum.mjs) off the statement by which the dump's own 'gosem.cut.vars' lays the variable. In a bare row this is a premise. The card (YtmioejkhhcjfpaaDoorCards.lean) ties it to the program's text. -/
def laid_math_bits_deBruijn32tab {H : Type} : DataW H := .agg [.lit (.int .u8 0), .lit (.int .u8 1), .lit (.int .u8 28), .lit (.int .u8 2), .lit (.int .u8 29), .lit (.int .u8 14), .lit (.int .u8 24), .lit (.int .u8 3), .lit (.int .u8 30), .lit (.int .u8 22), .lit (.int .u8 20), .lit (.int .u8 15), .lit (.int .u8 25), .lit (.int .u8 17), .lit (.int .u8 4), .lit (.int .u8 8), .lit (.int .u8 31), .lit (.int .u8 27), .lit (.int .u8 13), .lit (.int .u8 23), .lit (.int .u8 21), .lit (.int .u8 19), .lit (.int .u8 16), .lit (.int .u8 7), .lit (.int .u8 26), .lit (.int .u8 12), .lit (.int .u8 18), .lit (.int .u8 6), .lit (.int .u8 11), .lit (.int .u8 5), .lit (.int .u8 10), .lit (.int .u8 9)]
def laid_math_bits_deBruijn64tab {H : Type} : DataW H := .agg [.lit (.int .u8 0), .lit (.int .u8 1), .lit (.int .u8 56), .lit (.int .u8 2), .lit (.int .u8 57), .lit (.int .u8 49), .lit (.int .u8 28), .lit (.int .u8 3), .lit (.int .u8 61), .lit (.int .u8 58), .lit (.int .u8 42), .lit (.int .u8 50), .lit (.int .u8 38), .lit (.int .u8 29), .lit (.int .u8 17), .lit (.int .u8 4), .lit (.int .u8 62), .lit (.int .u8 47), .lit (.int .u8 59), .lit (.int .u8 36), .lit (.int .u8 45), .lit (.int .u8 43), .lit (.int .u8 51), .lit (.int .u8 22), .lit (.int .u8 53), .lit (.int .u8 39), .lit (.int .u8 33), .lit (.int .u8 30), .lit (.int .u8 24), .lit (.int .u8 18), .lit (.int .u8 12), .lit (.int .u8 5), .lit (.int .u8 63), .lit (.int .u8 55), .lit (.int .u8 48), .lit (.int .u8 27), .lit (.int .u8 60), .lit (.int .u8 41), .lit (.int .u8 37), .lit (.int .u8 16), .lit (.int .u8 46), .lit (.int .u8 35), .lit (.int .u8 44), .lit (.int .u8 21), .lit (.int .u8 52), .lit (.int .u8 32), .lit (.int .u8 23), .lit (.int .u8 11), .lit (.int .u8 54), .lit (.int .u8 26), .lit (.int .u8 40), .lit (.int .u8 15), .lit (.int .u8 34), .lit (.int .u8 20), .lit (.int .u8 31), .lit (.int .u8 10), .lit (.int .u8 25), .lit (.int .u8 14), .lit (.int .u8 19), .lit (.int .u8 9), .lit (.int .u8 13), .lit (.int .u8 8), .lit (.int .u8 7), .lit (.int .u8 6)]

/-- 'conclavelaw03.HeapPathUp': WHATEVER THE INPUT: true; the input reads as it did. -/
def heapPathUpSpec : ChangeSpec := { name := "heapPathUp", fn := fun _ => fun
  | [d1, d2] => { results := [.lit (.bool true)], args := [d1, d2] }
  | _ => none }
def heapPathUpRow : OpenClaim := { program := "ytmioejkhhcjfpaadoor", sum := "1db6ed23ab29cbf2b90918e54f2e6e8562fda097d076017f7247af72e5fa1b88", func := "conclave/conclavelaw03.HeapPathUp", spec := "heapPathUp", unfollowed := true, recurses := true, named := ["math/bits.deBruijn32tab", "math/bits.deBruijn64tab"], apart := false, laid := [("math/bits.deBruijn32tab", laid_math_bits_deBruijn32tab), ("math/bits.deBruijn64tab", laid_math_bits_deBruijn64tab)] }
def HeapPathUpSaid : Prop := heapPathUpRow.holds Tryd.pinned (OpenSpec.ofChange heapPathUpSpec)

/-- ITS FALSE NEIGHBOUR: 'it returns false'. Refute it at one input. -/
def heapPathUpWrong : ChangeSpec := { name := "heapPathUp", fn := fun _ => fun
  | [d1, d2] => { results := [.lit (.bool false)], args := [d1, d2] }
  | _ => none }
def HeapPathUpWrongFalsely : Prop := heapPathUpRow.holds Tryd.pinned (OpenSpec.ofChange heapPathUpWrong)

/-- 'conclavelaw03.HeapPlaces': WHATEVER THE INPUT: true; the input reads as it did. -/
def heapPlacesSpec : ChangeSpec := { name := "heapPlaces", fn := fun _ => fun
  | [d1, d2] => { results := [.lit (.bool true)], args := [d1, d2] }
  | _ => none }
def heapPlacesRow : OpenClaim := { program := "ytmioejkhhcjfpaadoor", sum := "1db6ed23ab29cbf2b90918e54f2e6e8562fda097d076017f7247af72e5fa1b88", func := "conclave/conclavelaw03.HeapPlaces", spec := "heapPlaces", unfollowed := true, recurses := true, named := ["math/bits.deBruijn32tab", "math/bits.deBruijn64tab"], apart := false, laid := [("math/bits.deBruijn32tab", laid_math_bits_deBruijn32tab), ("math/bits.deBruijn64tab", laid_math_bits_deBruijn64tab)] }
def HeapPlacesSaid : Prop := heapPlacesRow.holds Tryd.pinned (OpenSpec.ofChange heapPlacesSpec)

/-- ITS FALSE NEIGHBOUR: 'it returns false'. Refute it at one input. -/
def heapPlacesWrong : ChangeSpec := { name := "heapPlaces", fn := fun _ => fun
  | [d1, d2] => { results := [.lit (.bool false)], args := [d1, d2] }
  | _ => none }
def HeapPlacesWrongFalsely : Prop := heapPlacesRow.holds Tryd.pinned (OpenSpec.ofChange heapPlacesWrong)

/-- 'conclavelaw03.HeapFamily': WHATEVER THE INPUT: true; the input reads as it did. -/
def heapFamilySpec : ChangeSpec := { name := "heapFamily", fn := fun _ => fun
  | [d1, d2] => { results := [.lit (.bool true)], args := [d1, d2] }
  | _ => none }
def heapFamilyRow : OpenClaim := { program := "ytmioejkhhcjfpaadoor", sum := "1db6ed23ab29cbf2b90918e54f2e6e8562fda097d076017f7247af72e5fa1b88", func := "conclave/conclavelaw03.HeapFamily", spec := "heapFamily", unfollowed := true, recurses := true, named := ["math/bits.deBruijn32tab", "math/bits.deBruijn64tab"], apart := false, laid := [("math/bits.deBruijn32tab", laid_math_bits_deBruijn32tab), ("math/bits.deBruijn64tab", laid_math_bits_deBruijn64tab)] }
def HeapFamilySaid : Prop := heapFamilyRow.holds Tryd.pinned (OpenSpec.ofChange heapFamilySpec)

/-- ITS FALSE NEIGHBOUR: 'it returns false'. Refute it at one input. -/
def heapFamilyWrong : ChangeSpec := { name := "heapFamily", fn := fun _ => fun
  | [d1, d2] => { results := [.lit (.bool false)], args := [d1, d2] }
  | _ => none }
def HeapFamilyWrongFalsely : Prop := heapFamilyRow.holds Tryd.pinned (OpenSpec.ofChange heapFamilyWrong)

/-- 'conclavelaw03.HeapPaths': WHATEVER THE INPUT: true; the input reads as it did. -/
def heapPathsSpec : ChangeSpec := { name := "heapPaths", fn := fun _ => fun
  | [d1, d2, d3] => { results := [.lit (.bool true)], args := [d1, d2, d3] }
  | _ => none }
def heapPathsRow : OpenClaim := { program := "ytmioejkhhcjfpaadoor", sum := "1db6ed23ab29cbf2b90918e54f2e6e8562fda097d076017f7247af72e5fa1b88", func := "conclave/conclavelaw03.HeapPaths", spec := "heapPaths", unfollowed := true, recurses := true, named := ["math/bits.deBruijn32tab", "math/bits.deBruijn64tab"], apart := false, laid := [("math/bits.deBruijn32tab", laid_math_bits_deBruijn32tab), ("math/bits.deBruijn64tab", laid_math_bits_deBruijn64tab)] }
def HeapPathsSaid : Prop := heapPathsRow.holds Tryd.pinned (OpenSpec.ofChange heapPathsSpec)

/-- ITS FALSE NEIGHBOUR: 'it returns false'. Refute it at one input. -/
def heapPathsWrong : ChangeSpec := { name := "heapPaths", fn := fun _ => fun
  | [d1, d2, d3] => { results := [.lit (.bool false)], args := [d1, d2, d3] }
  | _ => none }
def HeapPathsWrongFalsely : Prop := heapPathsRow.holds Tryd.pinned (OpenSpec.ofChange heapPathsWrong)

/-- 'conclavelaw03.HeapCovers': WHATEVER THE INPUT: true; the input reads as it did. -/
def heapCoversSpec : ChangeSpec := { name := "heapCovers", fn := fun _ => fun
  | [d1, d2] => { results := [.lit (.bool true)], args := [d1, d2] }
  | _ => none }
def heapCoversRow : OpenClaim := { program := "ytmioejkhhcjfpaadoor", sum := "1db6ed23ab29cbf2b90918e54f2e6e8562fda097d076017f7247af72e5fa1b88", func := "conclave/conclavelaw03.HeapCovers", spec := "heapCovers", unfollowed := true, recurses := true, named := ["math/bits.deBruijn32tab", "math/bits.deBruijn64tab"], apart := false, laid := [("math/bits.deBruijn32tab", laid_math_bits_deBruijn32tab), ("math/bits.deBruijn64tab", laid_math_bits_deBruijn64tab)] }
def HeapCoversSaid : Prop := heapCoversRow.holds Tryd.pinned (OpenSpec.ofChange heapCoversSpec)

/-- ITS FALSE NEIGHBOUR: 'it returns false'. Refute it at one input. -/
def heapCoversWrong : ChangeSpec := { name := "heapCovers", fn := fun _ => fun
  | [d1, d2] => { results := [.lit (.bool false)], args := [d1, d2] }
  | _ => none }
def HeapCoversWrongFalsely : Prop := heapCoversRow.holds Tryd.pinned (OpenSpec.ofChange heapCoversWrong)

/-- 'conclavelaw03.HeapCommonLow': WHATEVER THE INPUT: true; the input reads as it did. -/
def heapCommonLowSpec : ChangeSpec := { name := "heapCommonLow", fn := fun _ => fun
  | [d1, d2, d3] => { results := [.lit (.bool true)], args := [d1, d2, d3] }
  | _ => none }
def heapCommonLowRow : OpenClaim := { program := "ytmioejkhhcjfpaadoor", sum := "1db6ed23ab29cbf2b90918e54f2e6e8562fda097d076017f7247af72e5fa1b88", func := "conclave/conclavelaw03.HeapCommonLow", spec := "heapCommonLow", unfollowed := true, recurses := true, named := ["math/bits.deBruijn32tab", "math/bits.deBruijn64tab"], apart := false, laid := [("math/bits.deBruijn32tab", laid_math_bits_deBruijn32tab), ("math/bits.deBruijn64tab", laid_math_bits_deBruijn64tab)] }
def HeapCommonLowSaid : Prop := heapCommonLowRow.holds Tryd.pinned (OpenSpec.ofChange heapCommonLowSpec)

/-- ITS FALSE NEIGHBOUR: 'it returns false'. Refute it at one input. -/
def heapCommonLowWrong : ChangeSpec := { name := "heapCommonLow", fn := fun _ => fun
  | [d1, d2, d3] => { results := [.lit (.bool false)], args := [d1, d2, d3] }
  | _ => none }
def HeapCommonLowWrongFalsely : Prop := heapCommonLowRow.holds Tryd.pinned (OpenSpec.ofChange heapCommonLowWrong)

/- THE SECOND FORM. 'bulk': how many values and letters a reading holds, each counted each time it is reached (what is shared counts as often as it is met; a slice's spare places count too). A statement '..UptoSaid' is the law's where the arguments, and the package variables that the reading takes, are together of bulk at most 1048576: NARROWER than '..Said'. Prove '..Said' where nothing that the law and all that it calls make is longer than what came in: it says more and counts as full. Else prove '..UptoSaid'. A law counts once. -/
mutual
def uptoBulk {H : Type} : DataW H → Nat
  | .lit (.string bytes) => bytes.length + 1
  | .lit _ => 1
  | .nil => 1
  | .ptr d => uptoBulk d + 1
  | .slice elems spare => uptoBulkAll elems + uptoBulkAll spare + 1
  | .agg parts => uptoBulkAll parts + 1
  | .iface _ d => uptoBulk d + 1
  | .map entries => uptoBulkEntries entries + 1
  | .held _ => 1
def uptoBulkAll {H : Type} : List (DataW H) → Nat
  | [] => 0
  | d :: r => uptoBulk d + uptoBulkAll r
def uptoBulkEntries {H : Type} : List (Lit × DataW H) → Nat
  | [] => 0
  | x :: r => uptoBulkEntry x + uptoBulkEntries r
def uptoBulkEntry {H : Type} : Lit × DataW H → Nat
  | (.string bytes, d) => bytes.length + uptoBulk d + 1
  | (_, d) => uptoBulk d + 1
 end
def uptoSmall : (H : Type) → List (DataW H) → Bool := fun _ ds => decide (uptoBulkAll ds ≤ 1048576)
def OpenSpec.upto (s : _root_.Go.ChangeSpec) : _root_.Go.OpenSpec := { _root_.Go.OpenSpec.ofChange s with cond := some uptoSmall }

/-- 'conclavelaw03.HeapPathUp', WHERE WHAT IT READS IS OF BULK AT MOST 1048576: true; the input reads as it did. -/
def heapPathUpUptoRow : OpenClaim := { program := "ytmioejkhhcjfpaadoor", sum := "1db6ed23ab29cbf2b90918e54f2e6e8562fda097d076017f7247af72e5fa1b88", func := "conclave/conclavelaw03.HeapPathUp", spec := "heapPathUp", unfollowed := true, recurses := true, named := ["math/bits.deBruijn32tab", "math/bits.deBruijn64tab"], apart := false, laid := [("math/bits.deBruijn32tab", laid_math_bits_deBruijn32tab), ("math/bits.deBruijn64tab", laid_math_bits_deBruijn64tab)], narrowed := true }
def HeapPathUpUptoSaid : Prop := heapPathUpUptoRow.holds Tryd.pinned (OpenSpec.upto heapPathUpSpec)

/-- 'conclavelaw03.HeapPlaces', WHERE WHAT IT READS IS OF BULK AT MOST 1048576: true; the input reads as it did. -/
def heapPlacesUptoRow : OpenClaim := { program := "ytmioejkhhcjfpaadoor", sum := "1db6ed23ab29cbf2b90918e54f2e6e8562fda097d076017f7247af72e5fa1b88", func := "conclave/conclavelaw03.HeapPlaces", spec := "heapPlaces", unfollowed := true, recurses := true, named := ["math/bits.deBruijn32tab", "math/bits.deBruijn64tab"], apart := false, laid := [("math/bits.deBruijn32tab", laid_math_bits_deBruijn32tab), ("math/bits.deBruijn64tab", laid_math_bits_deBruijn64tab)], narrowed := true }
def HeapPlacesUptoSaid : Prop := heapPlacesUptoRow.holds Tryd.pinned (OpenSpec.upto heapPlacesSpec)

/-- 'conclavelaw03.HeapFamily', WHERE WHAT IT READS IS OF BULK AT MOST 1048576: true; the input reads as it did. -/
def heapFamilyUptoRow : OpenClaim := { program := "ytmioejkhhcjfpaadoor", sum := "1db6ed23ab29cbf2b90918e54f2e6e8562fda097d076017f7247af72e5fa1b88", func := "conclave/conclavelaw03.HeapFamily", spec := "heapFamily", unfollowed := true, recurses := true, named := ["math/bits.deBruijn32tab", "math/bits.deBruijn64tab"], apart := false, laid := [("math/bits.deBruijn32tab", laid_math_bits_deBruijn32tab), ("math/bits.deBruijn64tab", laid_math_bits_deBruijn64tab)], narrowed := true }
def HeapFamilyUptoSaid : Prop := heapFamilyUptoRow.holds Tryd.pinned (OpenSpec.upto heapFamilySpec)

/-- 'conclavelaw03.HeapPaths', WHERE WHAT IT READS IS OF BULK AT MOST 1048576: true; the input reads as it did. -/
def heapPathsUptoRow : OpenClaim := { program := "ytmioejkhhcjfpaadoor", sum := "1db6ed23ab29cbf2b90918e54f2e6e8562fda097d076017f7247af72e5fa1b88", func := "conclave/conclavelaw03.HeapPaths", spec := "heapPaths", unfollowed := true, recurses := true, named := ["math/bits.deBruijn32tab", "math/bits.deBruijn64tab"], apart := false, laid := [("math/bits.deBruijn32tab", laid_math_bits_deBruijn32tab), ("math/bits.deBruijn64tab", laid_math_bits_deBruijn64tab)], narrowed := true }
def HeapPathsUptoSaid : Prop := heapPathsUptoRow.holds Tryd.pinned (OpenSpec.upto heapPathsSpec)

/-- 'conclavelaw03.HeapCovers', WHERE WHAT IT READS IS OF BULK AT MOST 1048576: true; the input reads as it did. -/
def heapCoversUptoRow : OpenClaim := { program := "ytmioejkhhcjfpaadoor", sum := "1db6ed23ab29cbf2b90918e54f2e6e8562fda097d076017f7247af72e5fa1b88", func := "conclave/conclavelaw03.HeapCovers", spec := "heapCovers", unfollowed := true, recurses := true, named := ["math/bits.deBruijn32tab", "math/bits.deBruijn64tab"], apart := false, laid := [("math/bits.deBruijn32tab", laid_math_bits_deBruijn32tab), ("math/bits.deBruijn64tab", laid_math_bits_deBruijn64tab)], narrowed := true }
def HeapCoversUptoSaid : Prop := heapCoversUptoRow.holds Tryd.pinned (OpenSpec.upto heapCoversSpec)

/-- 'conclavelaw03.HeapCommonLow', WHERE WHAT IT READS IS OF BULK AT MOST 1048576: true; the input reads as it did. -/
def heapCommonLowUptoRow : OpenClaim := { program := "ytmioejkhhcjfpaadoor", sum := "1db6ed23ab29cbf2b90918e54f2e6e8562fda097d076017f7247af72e5fa1b88", func := "conclave/conclavelaw03.HeapCommonLow", spec := "heapCommonLow", unfollowed := true, recurses := true, named := ["math/bits.deBruijn32tab", "math/bits.deBruijn64tab"], apart := false, laid := [("math/bits.deBruijn32tab", laid_math_bits_deBruijn32tab), ("math/bits.deBruijn64tab", laid_math_bits_deBruijn64tab)], narrowed := true }
def HeapCommonLowUptoSaid : Prop := heapCommonLowUptoRow.holds Tryd.pinned (OpenSpec.upto heapCommonLowSpec)

end Rows
end Go.Proofs.YtmioejkhhcjfpaaDoor
