/-
  NARROWER THAN 'FOR EVERY INPUT', by the rows' own cells (each row's printed sentence says how): TreeChecks: laid · TreeMemory: laid · TreeReaches: laid · TreeGrows: laid · TreeLate: laid · TreeBack: laid · TreeHoles: laid · TreeUpdates: laid · TreePlays: laid · TreeRight: laid.
  DERIVED. THE GIVEN ROWS OF THIS SEAT. 10 by the template 'for every input the law returns true; each argument reads behind the call as it read before'; 0 by the template 'total and deterministic' (their statements: YtbblomnhobodkaaDoorTotals.lean).
  GIVEN WITH THE SEED: the statements are not yours to turn. If you find one false, say at which input.
  Laid BY PROGRAM, IN A SANDBOX (cutbox-rows.mjs): the forced cells as the released guide's own fill.sh prints them over the translation e8267924c168b95c… (all of the seat's roots in one cut). By AI agents, Wed Nov 11 2026. No macro, syntax, notation, axiom, sorry.
-/
import Derived.Test.YtbblomnhobodkaaDoorChecked
import GoSem.Claim
import GoSem.ClaimJoined
import GoSem.ClaimMapViews
import Derived.JoinedTies
import Derived.KernelRfl
namespace Go.Proofs.YtbblomnhobodkaaDoor
/- THE CELL 'sum', in the pinned program and in every row, IS THE sha256 OF THE DUMP (.gsa) THAT YtbblomnhobodkaaDoorProg.lean LOADS. Nothing in Lean hashes anything: it is a label: what it is worth is what the hold of that sum in a sandbox is worth. -/
noncomputable def Tryd.pinned : Pinned := { name := "ytbblomnhobodkaadoor", sum := "e8267924c168b95c54ec1f0ff74f6246362528d7f54930dd84bea3cb72bf7b3a", checked := Tryd.checked }
namespace Rows
def none {H : Type} : Left H := { results := [], args := [] }

/- WHAT THE LISTED PACKAGE-LEVEL VARIABLES READ AS WHEN THE CALL BEGINS. Each datum BY PROGRAM (the guide's laid-datum.mjs) off the statement by which the dump's own 'gosem.cut.vars' lays the variable. In a bare row this is a premise. The card (YtbblomnhobodkaaDoorCards.lean) ties it to the program's text. -/
def laid_math_bits_deBruijn32tab {H : Type} : DataW H := .agg [.lit (.int .u8 0), .lit (.int .u8 1), .lit (.int .u8 28), .lit (.int .u8 2), .lit (.int .u8 29), .lit (.int .u8 14), .lit (.int .u8 24), .lit (.int .u8 3), .lit (.int .u8 30), .lit (.int .u8 22), .lit (.int .u8 20), .lit (.int .u8 15), .lit (.int .u8 25), .lit (.int .u8 17), .lit (.int .u8 4), .lit (.int .u8 8), .lit (.int .u8 31), .lit (.int .u8 27), .lit (.int .u8 13), .lit (.int .u8 23), .lit (.int .u8 21), .lit (.int .u8 19), .lit (.int .u8 16), .lit (.int .u8 7), .lit (.int .u8 26), .lit (.int .u8 12), .lit (.int .u8 18), .lit (.int .u8 6), .lit (.int .u8 11), .lit (.int .u8 5), .lit (.int .u8 10), .lit (.int .u8 9)]
def laid_math_bits_deBruijn64tab {H : Type} : DataW H := .agg [.lit (.int .u8 0), .lit (.int .u8 1), .lit (.int .u8 56), .lit (.int .u8 2), .lit (.int .u8 57), .lit (.int .u8 49), .lit (.int .u8 28), .lit (.int .u8 3), .lit (.int .u8 61), .lit (.int .u8 58), .lit (.int .u8 42), .lit (.int .u8 50), .lit (.int .u8 38), .lit (.int .u8 29), .lit (.int .u8 17), .lit (.int .u8 4), .lit (.int .u8 62), .lit (.int .u8 47), .lit (.int .u8 59), .lit (.int .u8 36), .lit (.int .u8 45), .lit (.int .u8 43), .lit (.int .u8 51), .lit (.int .u8 22), .lit (.int .u8 53), .lit (.int .u8 39), .lit (.int .u8 33), .lit (.int .u8 30), .lit (.int .u8 24), .lit (.int .u8 18), .lit (.int .u8 12), .lit (.int .u8 5), .lit (.int .u8 63), .lit (.int .u8 55), .lit (.int .u8 48), .lit (.int .u8 27), .lit (.int .u8 60), .lit (.int .u8 41), .lit (.int .u8 37), .lit (.int .u8 16), .lit (.int .u8 46), .lit (.int .u8 35), .lit (.int .u8 44), .lit (.int .u8 21), .lit (.int .u8 52), .lit (.int .u8 32), .lit (.int .u8 23), .lit (.int .u8 11), .lit (.int .u8 54), .lit (.int .u8 26), .lit (.int .u8 40), .lit (.int .u8 15), .lit (.int .u8 34), .lit (.int .u8 20), .lit (.int .u8 31), .lit (.int .u8 10), .lit (.int .u8 25), .lit (.int .u8 14), .lit (.int .u8 19), .lit (.int .u8 9), .lit (.int .u8 13), .lit (.int .u8 8), .lit (.int .u8 7), .lit (.int .u8 6)]

/-- 'conclavelaw04.TreeChecks': WHATEVER THE INPUT: true; the input reads as it did. -/
def treeChecksSpec : ChangeSpec := { name := "treeChecks", fn := fun _ => fun
  | [d] => { results := [.lit (.bool true)], args := [d] }
  | _ => none }
def treeChecksRow : OpenClaim := { program := "ytbblomnhobodkaadoor", sum := "e8267924c168b95c54ec1f0ff74f6246362528d7f54930dd84bea3cb72bf7b3a", func := "conclave/conclavelaw04.TreeChecks", spec := "treeChecks", inPlace := ["slices.overlaps[int]"], unfollowed := true, recurses := true, named := ["math/bits.deBruijn32tab", "math/bits.deBruijn64tab"], apart := false, laid := [("math/bits.deBruijn32tab", laid_math_bits_deBruijn32tab), ("math/bits.deBruijn64tab", laid_math_bits_deBruijn64tab)] }
def TreeChecksSaid : Prop := treeChecksRow.holds Tryd.pinned (OpenSpec.ofChange treeChecksSpec)

/-- ITS FALSE NEIGHBOUR: 'it returns false'. Refute it at one input. -/
def treeChecksWrong : ChangeSpec := { name := "treeChecks", fn := fun _ => fun
  | [d] => { results := [.lit (.bool false)], args := [d] }
  | _ => none }
def TreeChecksWrongFalsely : Prop := treeChecksRow.holds Tryd.pinned (OpenSpec.ofChange treeChecksWrong)

/-- 'conclavelaw04.TreeMemory': WHATEVER THE INPUT: true; the input reads as it did. -/
def treeMemorySpec : ChangeSpec := { name := "treeMemory", fn := fun _ => fun
  | [d1, d2, d3] => { results := [.lit (.bool true)], args := [d1, d2, d3] }
  | _ => none }
def treeMemoryRow : OpenClaim := { program := "ytbblomnhobodkaadoor", sum := "e8267924c168b95c54ec1f0ff74f6246362528d7f54930dd84bea3cb72bf7b3a", func := "conclave/conclavelaw04.TreeMemory", spec := "treeMemory", inPlace := ["slices.overlaps[int]"], unfollowed := true, recurses := true, named := ["math/bits.deBruijn32tab", "math/bits.deBruijn64tab"], apart := false, laid := [("math/bits.deBruijn32tab", laid_math_bits_deBruijn32tab), ("math/bits.deBruijn64tab", laid_math_bits_deBruijn64tab)] }
def TreeMemorySaid : Prop := treeMemoryRow.holds Tryd.pinned (OpenSpec.ofChange treeMemorySpec)

/-- ITS FALSE NEIGHBOUR: 'it returns false'. Refute it at one input. -/
def treeMemoryWrong : ChangeSpec := { name := "treeMemory", fn := fun _ => fun
  | [d1, d2, d3] => { results := [.lit (.bool false)], args := [d1, d2, d3] }
  | _ => none }
def TreeMemoryWrongFalsely : Prop := treeMemoryRow.holds Tryd.pinned (OpenSpec.ofChange treeMemoryWrong)

/-- 'conclavelaw04.TreeReaches': WHATEVER THE INPUT: true; the input reads as it did. -/
def treeReachesSpec : ChangeSpec := { name := "treeReaches", fn := fun _ => fun
  | [d1, d2, d3] => { results := [.lit (.bool true)], args := [d1, d2, d3] }
  | _ => none }
def treeReachesRow : OpenClaim := { program := "ytbblomnhobodkaadoor", sum := "e8267924c168b95c54ec1f0ff74f6246362528d7f54930dd84bea3cb72bf7b3a", func := "conclave/conclavelaw04.TreeReaches", spec := "treeReaches", inPlace := ["slices.overlaps[int]"], unfollowed := true, recurses := true, named := ["math/bits.deBruijn32tab", "math/bits.deBruijn64tab"], apart := false, laid := [("math/bits.deBruijn32tab", laid_math_bits_deBruijn32tab), ("math/bits.deBruijn64tab", laid_math_bits_deBruijn64tab)] }
def TreeReachesSaid : Prop := treeReachesRow.holds Tryd.pinned (OpenSpec.ofChange treeReachesSpec)

/-- ITS FALSE NEIGHBOUR: 'it returns false'. Refute it at one input. -/
def treeReachesWrong : ChangeSpec := { name := "treeReaches", fn := fun _ => fun
  | [d1, d2, d3] => { results := [.lit (.bool false)], args := [d1, d2, d3] }
  | _ => none }
def TreeReachesWrongFalsely : Prop := treeReachesRow.holds Tryd.pinned (OpenSpec.ofChange treeReachesWrong)

/-- 'conclavelaw04.TreeGrows': WHATEVER THE INPUT: true; the input reads as it did. -/
def treeGrowsSpec : ChangeSpec := { name := "treeGrows", fn := fun _ => fun
  | [d1, d2] => { results := [.lit (.bool true)], args := [d1, d2] }
  | _ => none }
def treeGrowsRow : OpenClaim := { program := "ytbblomnhobodkaadoor", sum := "e8267924c168b95c54ec1f0ff74f6246362528d7f54930dd84bea3cb72bf7b3a", func := "conclave/conclavelaw04.TreeGrows", spec := "treeGrows", inPlace := ["slices.overlaps[int]"], unfollowed := true, recurses := true, named := ["math/bits.deBruijn32tab", "math/bits.deBruijn64tab"], apart := false, laid := [("math/bits.deBruijn32tab", laid_math_bits_deBruijn32tab), ("math/bits.deBruijn64tab", laid_math_bits_deBruijn64tab)] }
def TreeGrowsSaid : Prop := treeGrowsRow.holds Tryd.pinned (OpenSpec.ofChange treeGrowsSpec)

/-- ITS FALSE NEIGHBOUR: 'it returns false'. Refute it at one input. -/
def treeGrowsWrong : ChangeSpec := { name := "treeGrows", fn := fun _ => fun
  | [d1, d2] => { results := [.lit (.bool false)], args := [d1, d2] }
  | _ => none }
def TreeGrowsWrongFalsely : Prop := treeGrowsRow.holds Tryd.pinned (OpenSpec.ofChange treeGrowsWrong)

/-- 'conclavelaw04.TreeLate': WHATEVER THE INPUT: true; the input reads as it did. -/
def treeLateSpec : ChangeSpec := { name := "treeLate", fn := fun _ => fun
  | [d1, d2, d3] => { results := [.lit (.bool true)], args := [d1, d2, d3] }
  | _ => none }
def treeLateRow : OpenClaim := { program := "ytbblomnhobodkaadoor", sum := "e8267924c168b95c54ec1f0ff74f6246362528d7f54930dd84bea3cb72bf7b3a", func := "conclave/conclavelaw04.TreeLate", spec := "treeLate", inPlace := ["slices.overlaps[int]"], unfollowed := true, recurses := true, named := ["math/bits.deBruijn32tab", "math/bits.deBruijn64tab"], apart := false, laid := [("math/bits.deBruijn32tab", laid_math_bits_deBruijn32tab), ("math/bits.deBruijn64tab", laid_math_bits_deBruijn64tab)] }
def TreeLateSaid : Prop := treeLateRow.holds Tryd.pinned (OpenSpec.ofChange treeLateSpec)

/-- ITS FALSE NEIGHBOUR: 'it returns false'. Refute it at one input. -/
def treeLateWrong : ChangeSpec := { name := "treeLate", fn := fun _ => fun
  | [d1, d2, d3] => { results := [.lit (.bool false)], args := [d1, d2, d3] }
  | _ => none }
def TreeLateWrongFalsely : Prop := treeLateRow.holds Tryd.pinned (OpenSpec.ofChange treeLateWrong)

/-- 'conclavelaw04.TreeBack': WHATEVER THE INPUT: true; the input reads as it did. -/
def treeBackSpec : ChangeSpec := { name := "treeBack", fn := fun _ => fun
  | [d1, d2, d3] => { results := [.lit (.bool true)], args := [d1, d2, d3] }
  | _ => none }
def treeBackRow : OpenClaim := { program := "ytbblomnhobodkaadoor", sum := "e8267924c168b95c54ec1f0ff74f6246362528d7f54930dd84bea3cb72bf7b3a", func := "conclave/conclavelaw04.TreeBack", spec := "treeBack", inPlace := ["slices.overlaps[int]"], unfollowed := true, recurses := true, named := ["math/bits.deBruijn32tab", "math/bits.deBruijn64tab"], apart := false, laid := [("math/bits.deBruijn32tab", laid_math_bits_deBruijn32tab), ("math/bits.deBruijn64tab", laid_math_bits_deBruijn64tab)] }
def TreeBackSaid : Prop := treeBackRow.holds Tryd.pinned (OpenSpec.ofChange treeBackSpec)

/-- ITS FALSE NEIGHBOUR: 'it returns false'. Refute it at one input. -/
def treeBackWrong : ChangeSpec := { name := "treeBack", fn := fun _ => fun
  | [d1, d2, d3] => { results := [.lit (.bool false)], args := [d1, d2, d3] }
  | _ => none }
def TreeBackWrongFalsely : Prop := treeBackRow.holds Tryd.pinned (OpenSpec.ofChange treeBackWrong)

/-- 'conclavelaw04.TreeHoles': WHATEVER THE INPUT: true; the input reads as it did. -/
def treeHolesSpec : ChangeSpec := { name := "treeHoles", fn := fun _ => fun
  | [d1, d2, d3] => { results := [.lit (.bool true)], args := [d1, d2, d3] }
  | _ => none }
def treeHolesRow : OpenClaim := { program := "ytbblomnhobodkaadoor", sum := "e8267924c168b95c54ec1f0ff74f6246362528d7f54930dd84bea3cb72bf7b3a", func := "conclave/conclavelaw04.TreeHoles", spec := "treeHoles", inPlace := ["slices.overlaps[int]"], unfollowed := true, recurses := true, named := ["math/bits.deBruijn32tab", "math/bits.deBruijn64tab"], apart := false, laid := [("math/bits.deBruijn32tab", laid_math_bits_deBruijn32tab), ("math/bits.deBruijn64tab", laid_math_bits_deBruijn64tab)] }
def TreeHolesSaid : Prop := treeHolesRow.holds Tryd.pinned (OpenSpec.ofChange treeHolesSpec)

/-- ITS FALSE NEIGHBOUR: 'it returns false'. Refute it at one input. -/
def treeHolesWrong : ChangeSpec := { name := "treeHoles", fn := fun _ => fun
  | [d1, d2, d3] => { results := [.lit (.bool false)], args := [d1, d2, d3] }
  | _ => none }
def TreeHolesWrongFalsely : Prop := treeHolesRow.holds Tryd.pinned (OpenSpec.ofChange treeHolesWrong)

/-- 'conclavelaw04.TreeUpdates': WHATEVER THE INPUT: true; the input reads as it did. -/
def treeUpdatesSpec : ChangeSpec := { name := "treeUpdates", fn := fun _ => fun
  | [d1, d2, d3, d4] => { results := [.lit (.bool true)], args := [d1, d2, d3, d4] }
  | _ => none }
def treeUpdatesRow : OpenClaim := { program := "ytbblomnhobodkaadoor", sum := "e8267924c168b95c54ec1f0ff74f6246362528d7f54930dd84bea3cb72bf7b3a", func := "conclave/conclavelaw04.TreeUpdates", spec := "treeUpdates", inPlace := ["slices.overlaps[int]"], unfollowed := true, recurses := true, named := ["math/bits.deBruijn32tab", "math/bits.deBruijn64tab"], apart := false, laid := [("math/bits.deBruijn32tab", laid_math_bits_deBruijn32tab), ("math/bits.deBruijn64tab", laid_math_bits_deBruijn64tab)] }
def TreeUpdatesSaid : Prop := treeUpdatesRow.holds Tryd.pinned (OpenSpec.ofChange treeUpdatesSpec)

/-- ITS FALSE NEIGHBOUR: 'it returns false'. Refute it at one input. -/
def treeUpdatesWrong : ChangeSpec := { name := "treeUpdates", fn := fun _ => fun
  | [d1, d2, d3, d4] => { results := [.lit (.bool false)], args := [d1, d2, d3, d4] }
  | _ => none }
def TreeUpdatesWrongFalsely : Prop := treeUpdatesRow.holds Tryd.pinned (OpenSpec.ofChange treeUpdatesWrong)

/-- 'conclavelaw04.TreePlays': WHATEVER THE INPUT: true; the input reads as it did. -/
def treePlaysSpec : ChangeSpec := { name := "treePlays", fn := fun _ => fun
  | [d1, d2] => { results := [.lit (.bool true)], args := [d1, d2] }
  | _ => none }
def treePlaysRow : OpenClaim := { program := "ytbblomnhobodkaadoor", sum := "e8267924c168b95c54ec1f0ff74f6246362528d7f54930dd84bea3cb72bf7b3a", func := "conclave/conclavelaw04.TreePlays", spec := "treePlays", inPlace := ["slices.overlaps[int]"], unfollowed := true, recurses := true, named := ["math/bits.deBruijn32tab", "math/bits.deBruijn64tab"], apart := false, laid := [("math/bits.deBruijn32tab", laid_math_bits_deBruijn32tab), ("math/bits.deBruijn64tab", laid_math_bits_deBruijn64tab)] }
def TreePlaysSaid : Prop := treePlaysRow.holds Tryd.pinned (OpenSpec.ofChange treePlaysSpec)

/-- ITS FALSE NEIGHBOUR: 'it returns false'. Refute it at one input. -/
def treePlaysWrong : ChangeSpec := { name := "treePlays", fn := fun _ => fun
  | [d1, d2] => { results := [.lit (.bool false)], args := [d1, d2] }
  | _ => none }
def TreePlaysWrongFalsely : Prop := treePlaysRow.holds Tryd.pinned (OpenSpec.ofChange treePlaysWrong)

/-- 'conclavelaw04.TreeRight': WHATEVER THE INPUT: true; the input reads as it did. -/
def treeRightSpec : ChangeSpec := { name := "treeRight", fn := fun _ => fun
  | [d1, d2, d3] => { results := [.lit (.bool true)], args := [d1, d2, d3] }
  | _ => none }
def treeRightRow : OpenClaim := { program := "ytbblomnhobodkaadoor", sum := "e8267924c168b95c54ec1f0ff74f6246362528d7f54930dd84bea3cb72bf7b3a", func := "conclave/conclavelaw04.TreeRight", spec := "treeRight", inPlace := ["slices.overlaps[int]"], unfollowed := true, recurses := true, named := ["math/bits.deBruijn32tab", "math/bits.deBruijn64tab"], apart := false, laid := [("math/bits.deBruijn32tab", laid_math_bits_deBruijn32tab), ("math/bits.deBruijn64tab", laid_math_bits_deBruijn64tab)] }
def TreeRightSaid : Prop := treeRightRow.holds Tryd.pinned (OpenSpec.ofChange treeRightSpec)

/-- ITS FALSE NEIGHBOUR: 'it returns false'. Refute it at one input. -/
def treeRightWrong : ChangeSpec := { name := "treeRight", fn := fun _ => fun
  | [d1, d2, d3] => { results := [.lit (.bool false)], args := [d1, d2, d3] }
  | _ => none }
def TreeRightWrongFalsely : Prop := treeRightRow.holds Tryd.pinned (OpenSpec.ofChange treeRightWrong)

/- THE SECOND FORM. 'bulk': how many values and letters a reading holds, each counted each time it is reached (what is shared counts as often as it is met; a slice's spare places count too). A statement '..UptoSaid' is the law's where the arguments, and the package variables that the reading takes, are together of bulk at most 1048576: NARROWER than '..Said'. Prove '..Said' where nothing that the law and all that it calls make is longer than what came in: it says more and counts as full. Else prove '..UptoSaid'. A law counts once. -/
mutual
def uptoBulk {H : Type} : DataW H → Nat
  | .lit (.string bytes) => bytes.length + 1
  | .lit _ => 1
  | .nil => 1
  | .ptr d => uptoBulk d + 1
  | .slice elems spare => uptoBulkAll elems + uptoBulkAll spare + 1
  | .agg parts => uptoBulkAll parts + 1
  | .iface _ d => uptoBulk d + 1
  | .map entries => uptoBulkEntries entries + 1
  | .held _ => 1
def uptoBulkAll {H : Type} : List (DataW H) → Nat
  | [] => 0
  | d :: r => uptoBulk d + uptoBulkAll r
def uptoBulkEntries {H : Type} : List (Lit × DataW H) → Nat
  | [] => 0
  | x :: r => uptoBulkEntry x + uptoBulkEntries r
def uptoBulkEntry {H : Type} : Lit × DataW H → Nat
  | (.string bytes, d) => bytes.length + uptoBulk d + 1
  | (_, d) => uptoBulk d + 1
 end
def uptoSmall : (H : Type) → List (DataW H) → Bool := fun _ ds => decide (uptoBulkAll ds ≤ 1048576)
def OpenSpec.upto (s : _root_.Go.ChangeSpec) : _root_.Go.OpenSpec := { _root_.Go.OpenSpec.ofChange s with cond := some uptoSmall }

/-- 'conclavelaw04.TreeChecks', WHERE WHAT IT READS IS OF BULK AT MOST 1048576: true; the input reads as it did. -/
def treeChecksUptoRow : OpenClaim := { program := "ytbblomnhobodkaadoor", sum := "e8267924c168b95c54ec1f0ff74f6246362528d7f54930dd84bea3cb72bf7b3a", func := "conclave/conclavelaw04.TreeChecks", spec := "treeChecks", inPlace := ["slices.overlaps[int]"], unfollowed := true, recurses := true, named := ["math/bits.deBruijn32tab", "math/bits.deBruijn64tab"], apart := false, laid := [("math/bits.deBruijn32tab", laid_math_bits_deBruijn32tab), ("math/bits.deBruijn64tab", laid_math_bits_deBruijn64tab)], narrowed := true }
def TreeChecksUptoSaid : Prop := treeChecksUptoRow.holds Tryd.pinned (OpenSpec.upto treeChecksSpec)

/-- 'conclavelaw04.TreeMemory', WHERE WHAT IT READS IS OF BULK AT MOST 1048576: true; the input reads as it did. -/
def treeMemoryUptoRow : OpenClaim := { program := "ytbblomnhobodkaadoor", sum := "e8267924c168b95c54ec1f0ff74f6246362528d7f54930dd84bea3cb72bf7b3a", func := "conclave/conclavelaw04.TreeMemory", spec := "treeMemory", inPlace := ["slices.overlaps[int]"], unfollowed := true, recurses := true, named := ["math/bits.deBruijn32tab", "math/bits.deBruijn64tab"], apart := false, laid := [("math/bits.deBruijn32tab", laid_math_bits_deBruijn32tab), ("math/bits.deBruijn64tab", laid_math_bits_deBruijn64tab)], narrowed := true }
def TreeMemoryUptoSaid : Prop := treeMemoryUptoRow.holds Tryd.pinned (OpenSpec.upto treeMemorySpec)

/-- 'conclavelaw04.TreeReaches', WHERE WHAT IT READS IS OF BULK AT MOST 1048576: true; the input reads as it did. -/
def treeReachesUptoRow : OpenClaim := { program := "ytbblomnhobodkaadoor", sum := "e8267924c168b95c54ec1f0ff74f6246362528d7f54930dd84bea3cb72bf7b3a", func := "conclave/conclavelaw04.TreeReaches", spec := "treeReaches", inPlace := ["slices.overlaps[int]"], unfollowed := true, recurses := true, named := ["math/bits.deBruijn32tab", "math/bits.deBruijn64tab"], apart := false, laid := [("math/bits.deBruijn32tab", laid_math_bits_deBruijn32tab), ("math/bits.deBruijn64tab", laid_math_bits_deBruijn64tab)], narrowed := true }
def TreeReachesUptoSaid : Prop := treeReachesUptoRow.holds Tryd.pinned (OpenSpec.upto treeReachesSpec)

/-- 'conclavelaw04.TreeGrows', WHERE WHAT IT READS IS OF BULK AT MOST 1048576: true; the input reads as it did. -/
def treeGrowsUptoRow : OpenClaim := { program := "ytbblomnhobodkaadoor", sum := "e8267924c168b95c54ec1f0ff74f6246362528d7f54930dd84bea3cb72bf7b3a", func := "conclave/conclavelaw04.TreeGrows", spec := "treeGrows", inPlace := ["slices.overlaps[int]"], unfollowed := true, recurses := true, named := ["math/bits.deBruijn32tab", "math/bits.deBruijn64tab"], apart := false, laid := [("math/bits.deBruijn32tab", laid_math_bits_deBruijn32tab), ("math/bits.deBruijn64tab", laid_math_bits_deBruijn64tab)], narrowed := true }
def TreeGrowsUptoSaid : Prop := treeGrowsUptoRow.holds Tryd.pinned (OpenSpec.upto treeGrowsSpec)

/-- 'conclavelaw04.TreeLate', WHERE WHAT IT READS IS OF BULK AT MOST 1048576: true; the input reads as it did. -/
def treeLateUptoRow : OpenClaim := { program := "ytbblomnhobodkaadoor", sum := "e8267924c168b95c54ec1f0ff74f6246362528d7f54930dd84bea3cb72bf7b3a", func := "conclave/conclavelaw04.TreeLate", spec := "treeLate", inPlace := ["slices.overlaps[int]"], unfollowed := true, recurses := true, named := ["math/bits.deBruijn32tab", "math/bits.deBruijn64tab"], apart := false, laid := [("math/bits.deBruijn32tab", laid_math_bits_deBruijn32tab), ("math/bits.deBruijn64tab", laid_math_bits_deBruijn64tab)], narrowed := true }
def TreeLateUptoSaid : Prop := treeLateUptoRow.holds Tryd.pinned (OpenSpec.upto treeLateSpec)

/-- 'conclavelaw04.TreeBack', WHERE WHAT IT READS IS OF BULK AT MOST 1048576: true; the input reads as it did. -/
def treeBackUptoRow : OpenClaim := { program := "ytbblomnhobodkaadoor", sum := "e8267924c168b95c54ec1f0ff74f6246362528d7f54930dd84bea3cb72bf7b3a", func := "conclave/conclavelaw04.TreeBack", spec := "treeBack", inPlace := ["slices.overlaps[int]"], unfollowed := true, recurses := true, named := ["math/bits.deBruijn32tab", "math/bits.deBruijn64tab"], apart := false, laid := [("math/bits.deBruijn32tab", laid_math_bits_deBruijn32tab), ("math/bits.deBruijn64tab", laid_math_bits_deBruijn64tab)], narrowed := true }
def TreeBackUptoSaid : Prop := treeBackUptoRow.holds Tryd.pinned (OpenSpec.upto treeBackSpec)

/-- 'conclavelaw04.TreeHoles', WHERE WHAT IT READS IS OF BULK AT MOST 1048576: true; the input reads as it did. -/
def treeHolesUptoRow : OpenClaim := { program := "ytbblomnhobodkaadoor", sum := "e8267924c168b95c54ec1f0ff74f6246362528d7f54930dd84bea3cb72bf7b3a", func := "conclave/conclavelaw04.TreeHoles", spec := "treeHoles", inPlace := ["slices.overlaps[int]"], unfollowed := true, recurses := true, named := ["math/bits.deBruijn32tab", "math/bits.deBruijn64tab"], apart := false, laid := [("math/bits.deBruijn32tab", laid_math_bits_deBruijn32tab), ("math/bits.deBruijn64tab", laid_math_bits_deBruijn64tab)], narrowed := true }
def TreeHolesUptoSaid : Prop := treeHolesUptoRow.holds Tryd.pinned (OpenSpec.upto treeHolesSpec)

/-- 'conclavelaw04.TreeUpdates', WHERE WHAT IT READS IS OF BULK AT MOST 1048576: true; the input reads as it did. -/
def treeUpdatesUptoRow : OpenClaim := { program := "ytbblomnhobodkaadoor", sum := "e8267924c168b95c54ec1f0ff74f6246362528d7f54930dd84bea3cb72bf7b3a", func := "conclave/conclavelaw04.TreeUpdates", spec := "treeUpdates", inPlace := ["slices.overlaps[int]"], unfollowed := true, recurses := true, named := ["math/bits.deBruijn32tab", "math/bits.deBruijn64tab"], apart := false, laid := [("math/bits.deBruijn32tab", laid_math_bits_deBruijn32tab), ("math/bits.deBruijn64tab", laid_math_bits_deBruijn64tab)], narrowed := true }
def TreeUpdatesUptoSaid : Prop := treeUpdatesUptoRow.holds Tryd.pinned (OpenSpec.upto treeUpdatesSpec)

/-- 'conclavelaw04.TreePlays', WHERE WHAT IT READS IS OF BULK AT MOST 1048576: true; the input reads as it did. -/
def treePlaysUptoRow : OpenClaim := { program := "ytbblomnhobodkaadoor", sum := "e8267924c168b95c54ec1f0ff74f6246362528d7f54930dd84bea3cb72bf7b3a", func := "conclave/conclavelaw04.TreePlays", spec := "treePlays", inPlace := ["slices.overlaps[int]"], unfollowed := true, recurses := true, named := ["math/bits.deBruijn32tab", "math/bits.deBruijn64tab"], apart := false, laid := [("math/bits.deBruijn32tab", laid_math_bits_deBruijn32tab), ("math/bits.deBruijn64tab", laid_math_bits_deBruijn64tab)], narrowed := true }
def TreePlaysUptoSaid : Prop := treePlaysUptoRow.holds Tryd.pinned (OpenSpec.upto treePlaysSpec)

/-- 'conclavelaw04.TreeRight', WHERE WHAT IT READS IS OF BULK AT MOST 1048576: true; the input reads as it did. -/
def treeRightUptoRow : OpenClaim := { program := "ytbblomnhobodkaadoor", sum := "e8267924c168b95c54ec1f0ff74f6246362528d7f54930dd84bea3cb72bf7b3a", func := "conclave/conclavelaw04.TreeRight", spec := "treeRight", inPlace := ["slices.overlaps[int]"], unfollowed := true, recurses := true, named := ["math/bits.deBruijn32tab", "math/bits.deBruijn64tab"], apart := false, laid := [("math/bits.deBruijn32tab", laid_math_bits_deBruijn32tab), ("math/bits.deBruijn64tab", laid_math_bits_deBruijn64tab)], narrowed := true }
def TreeRightUptoSaid : Prop := treeRightUptoRow.holds Tryd.pinned (OpenSpec.upto treeRightSpec)

end Rows
end Go.Proofs.YtbblomnhobodkaaDoor
