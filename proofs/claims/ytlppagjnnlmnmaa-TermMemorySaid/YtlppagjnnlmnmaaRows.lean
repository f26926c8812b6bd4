/-
  No cell of these rows narrows 'for every input' (looked for: loops, veiled, ifaces, maps, wideKeys, modest, calm, conditions, laid).
  DERIVED. THE GIVEN ROWS OF THIS SEAT. 7 by the template 'for every input the law returns true; each argument reads behind the call as it read before'; 0 by the template 'total and deterministic' (their statements: YtlppagjnnlmnmaaTotals.lean).
  GIVEN WITH THE SEED: the statements are not yours to turn. If you find one false, say at which input.
  Laid BY PROGRAM, IN A SANDBOX (cutbox-rows.mjs): the forced cells as the released guide's own fill.sh prints them over the translation cf4add2d312ea472… (all of the seat's roots in one cut). By AI agents, Wed Nov 11 2026. No macro, syntax, notation, axiom, sorry.
-/
import Derived.Test.YtlppagjnnlmnmaaChecked
import GoSem.Claim
import GoSem.ClaimJoined
import GoSem.ClaimMapViews
import Derived.JoinedTies
import Derived.KernelRfl
namespace Go.Proofs.Ytlppagjnnlmnmaa
/- THE CELL 'sum', in the pinned program and in every row, IS THE sha256 OF THE DUMP (.gsa) THAT YtlppagjnnlmnmaaProg.lean LOADS. Nothing in Lean hashes anything: it is a label: what it is worth is what the hold of that sum in a sandbox is worth. -/
noncomputable def Try.pinned : Pinned := { name := "ytlppagjnnlmnmaa", sum := "cf4add2d312ea472d9e4f568c9acd0dea064e8b6e31b581ad35071e63dbea7f0", checked := Try.checked }
namespace Rows
def none {H : Type} : Left H := { results := [], args := [] }

/-- 'conclavelaw01.TermOnce': WHATEVER THE INPUT: true; the input reads as it did. -/
def termOnceSpec : ChangeSpec := { name := "termOnce", fn := fun _ => fun
  | [d] => { results := [.lit (.bool true)], args := [d] }
  | _ => none }
def termOnceRow : OpenClaim := { program := "ytlppagjnnlmnmaa", sum := "cf4add2d312ea472d9e4f568c9acd0dea064e8b6e31b581ad35071e63dbea7f0", func := "conclave/conclavelaw01.TermOnce", spec := "termOnce", plainKeys := false, apart := false }
def TermOnceSaid : Prop := termOnceRow.holds Try.pinned (OpenSpec.ofChange termOnceSpec)

/-- ITS FALSE NEIGHBOUR: 'it returns false'. Refute it at one input. -/
def termOnceWrong : ChangeSpec := { name := "termOnce", fn := fun _ => fun
  | [d] => { results := [.lit (.bool false)], args := [d] }
  | _ => none }
def TermOnceWrongFalsely : Prop := termOnceRow.holds Try.pinned (OpenSpec.ofChange termOnceWrong)

/-- 'conclavelaw01.TermDraws': WHATEVER THE INPUT: true; the input reads as it did. -/
def termDrawsSpec : ChangeSpec := { name := "termDraws", fn := fun _ => fun
  | [d1, d2] => { results := [.lit (.bool true)], args := [d1, d2] }
  | _ => none }
def termDrawsRow : OpenClaim := { program := "ytlppagjnnlmnmaa", sum := "cf4add2d312ea472d9e4f568c9acd0dea064e8b6e31b581ad35071e63dbea7f0", func := "conclave/conclavelaw01.TermDraws", spec := "termDraws", plainKeys := false, apart := false }
def TermDrawsSaid : Prop := termDrawsRow.holds Try.pinned (OpenSpec.ofChange termDrawsSpec)

/-- ITS FALSE NEIGHBOUR: 'it returns false'. Refute it at one input. -/
def termDrawsWrong : ChangeSpec := { name := "termDraws", fn := fun _ => fun
  | [d1, d2] => { results := [.lit (.bool false)], args := [d1, d2] }
  | _ => none }
def TermDrawsWrongFalsely : Prop := termDrawsRow.holds Try.pinned (OpenSpec.ofChange termDrawsWrong)

/-- 'conclavelaw01.TermGrows': WHATEVER THE INPUT: true; the input reads as it did. -/
def termGrowsSpec : ChangeSpec := { name := "termGrows", fn := fun _ => fun
  | [d] => { results := [.lit (.bool true)], args := [d] }
  | _ => none }
def termGrowsRow : OpenClaim := { program := "ytlppagjnnlmnmaa", sum := "cf4add2d312ea472d9e4f568c9acd0dea064e8b6e31b581ad35071e63dbea7f0", func := "conclave/conclavelaw01.TermGrows", spec := "termGrows", plainKeys := false, apart := false }
def TermGrowsSaid : Prop := termGrowsRow.holds Try.pinned (OpenSpec.ofChange termGrowsSpec)

/-- ITS FALSE NEIGHBOUR: 'it returns false'. Refute it at one input. -/
def termGrowsWrong : ChangeSpec := { name := "termGrows", fn := fun _ => fun
  | [d] => { results := [.lit (.bool false)], args := [d] }
  | _ => none }
def TermGrowsWrongFalsely : Prop := termGrowsRow.holds Try.pinned (OpenSpec.ofChange termGrowsWrong)

/-- 'conclavelaw01.TermBounds': WHATEVER THE INPUT: true; the input reads as it did. -/
def termBoundsSpec : ChangeSpec := { name := "termBounds", fn := fun _ => fun
  | [d1, d2] => { results := [.lit (.bool true)], args := [d1, d2] }
  | _ => none }
def termBoundsRow : OpenClaim := { program := "ytlppagjnnlmnmaa", sum := "cf4add2d312ea472d9e4f568c9acd0dea064e8b6e31b581ad35071e63dbea7f0", func := "conclave/conclavelaw01.TermBounds", spec := "termBounds", plainKeys := false, apart := false }
def TermBoundsSaid : Prop := termBoundsRow.holds Try.pinned (OpenSpec.ofChange termBoundsSpec)

/-- ITS FALSE NEIGHBOUR: 'it returns false'. Refute it at one input. -/
def termBoundsWrong : ChangeSpec := { name := "termBounds", fn := fun _ => fun
  | [d1, d2] => { results := [.lit (.bool false)], args := [d1, d2] }
  | _ => none }
def TermBoundsWrongFalsely : Prop := termBoundsRow.holds Try.pinned (OpenSpec.ofChange termBoundsWrong)

/-- 'conclavelaw01.TermShut': WHATEVER THE INPUT: true; the input reads as it did. -/
def termShutSpec : ChangeSpec := { name := "termShut", fn := fun _ => fun
  | [d1, d2, d3, d4] => { results := [.lit (.bool true)], args := [d1, d2, d3, d4] }
  | _ => none }
def termShutRow : OpenClaim := { program := "ytlppagjnnlmnmaa", sum := "cf4add2d312ea472d9e4f568c9acd0dea064e8b6e31b581ad35071e63dbea7f0", func := "conclave/conclavelaw01.TermShut", spec := "termShut", plainKeys := false, apart := false }
def TermShutSaid : Prop := termShutRow.holds Try.pinned (OpenSpec.ofChange termShutSpec)

/-- ITS FALSE NEIGHBOUR: 'it returns false'. Refute it at one input. -/
def termShutWrong : ChangeSpec := { name := "termShut", fn := fun _ => fun
  | [d1, d2, d3, d4] => { results := [.lit (.bool false)], args := [d1, d2, d3, d4] }
  | _ => none }
def TermShutWrongFalsely : Prop := termShutRow.holds Try.pinned (OpenSpec.ofChange termShutWrong)

/-- 'conclavelaw01.TermLists': WHATEVER THE INPUT: true; the input reads as it did. -/
def termListsSpec : ChangeSpec := { name := "termLists", fn := fun _ => fun
  | [d1, d2] => { results := [.lit (.bool true)], args := [d1, d2] }
  | _ => none }
def termListsRow : OpenClaim := { program := "ytlppagjnnlmnmaa", sum := "cf4add2d312ea472d9e4f568c9acd0dea064e8b6e31b581ad35071e63dbea7f0", func := "conclave/conclavelaw01.TermLists", spec := "termLists", plainKeys := false, apart := false }
def TermListsSaid : Prop := termListsRow.holds Try.pinned (OpenSpec.ofChange termListsSpec)

/-- ITS FALSE NEIGHBOUR: 'it returns false'. Refute it at one input. -/
def termListsWrong : ChangeSpec := { name := "termLists", fn := fun _ => fun
  | [d1, d2] => { results := [.lit (.bool false)], args := [d1, d2] }
  | _ => none }
def TermListsWrongFalsely : Prop := termListsRow.holds Try.pinned (OpenSpec.ofChange termListsWrong)

/-- 'conclavelaw01.TermMemory': WHATEVER THE INPUT: true; the input reads as it did. -/
def termMemorySpec : ChangeSpec := { name := "termMemory", fn := fun _ => fun
  | [d] => { results := [.lit (.bool true)], args := [d] }
  | _ => none }
def termMemoryRow : OpenClaim := { program := "ytlppagjnnlmnmaa", sum := "cf4add2d312ea472d9e4f568c9acd0dea064e8b6e31b581ad35071e63dbea7f0", func := "conclave/conclavelaw01.TermMemory", spec := "termMemory", plainKeys := false, apart := false }
def TermMemorySaid : Prop := termMemoryRow.holds Try.pinned (OpenSpec.ofChange termMemorySpec)

/-- ITS FALSE NEIGHBOUR: 'it returns false'. Refute it at one input. -/
def termMemoryWrong : ChangeSpec := { name := "termMemory", fn := fun _ => fun
  | [d] => { results := [.lit (.bool false)], args := [d] }
  | _ => none }
def TermMemoryWrongFalsely : Prop := termMemoryRow.holds Try.pinned (OpenSpec.ofChange termMemoryWrong)

/- THE SECOND FORM. 'bulk': how many values and letters a reading holds, each counted each time it is reached (what is shared counts as often as it is met; a slice's spare places count too). A statement '..UptoSaid' is the law's where the arguments, and the package variables that the reading takes, are together of bulk at most 1048576: NARROWER than '..Said'. Prove '..Said' where nothing that the law and all that it calls make is longer than what came in: it says more and counts as full. Else prove '..UptoSaid'. A law counts once. -/
mutual
def uptoBulk {H : Type} : DataW H → Nat
  | .lit (.string bytes) => bytes.length + 1
  | .lit _ => 1
  | .nil => 1
  | .ptr d => uptoBulk d + 1
  | .slice elems spare => uptoBulkAll elems + uptoBulkAll spare + 1
  | .agg parts => uptoBulkAll parts + 1
  | .iface _ d => uptoBulk d + 1
  | .map entries => uptoBulkEntries entries + 1
  | .held _ => 1
def uptoBulkAll {H : Type} : List (DataW H) → Nat
  | [] => 0
  | d :: r => uptoBulk d + uptoBulkAll r
def uptoBulkEntries {H : Type} : List (Lit × DataW H) → Nat
  | [] => 0
  | x :: r => uptoBulkEntry x + uptoBulkEntries r
def uptoBulkEntry {H : Type} : Lit × DataW H → Nat
  | (.string bytes, d) => bytes.length + uptoBulk d + 1
  | (_, d) => uptoBulk d + 1
 end
def uptoSmall : (H : Type) → List (DataW H) → Bool := fun _ ds => decide (uptoBulkAll ds ≤ 1048576)
def OpenSpec.upto (s : _root_.Go.ChangeSpec) : _root_.Go.OpenSpec := { _root_.Go.OpenSpec.ofChange s with cond := some uptoSmall }

/-- 'conclavelaw01.TermOnce', WHERE WHAT IT READS IS OF BULK AT MOST 1048576: true; the input reads as it did. -/
def termOnceUptoRow : OpenClaim := { program := "ytlppagjnnlmnmaa", sum := "cf4add2d312ea472d9e4f568c9acd0dea064e8b6e31b581ad35071e63dbea7f0", func := "conclave/conclavelaw01.TermOnce", spec := "termOnce", plainKeys := false, apart := false, narrowed := true }
def TermOnceUptoSaid : Prop := termOnceUptoRow.holds Try.pinned (OpenSpec.upto termOnceSpec)

/-- 'conclavelaw01.TermDraws', WHERE WHAT IT READS IS OF BULK AT MOST 1048576: true; the input reads as it did. -/
def termDrawsUptoRow : OpenClaim := { program := "ytlppagjnnlmnmaa", sum := "cf4add2d312ea472d9e4f568c9acd0dea064e8b6e31b581ad35071e63dbea7f0", func := "conclave/conclavelaw01.TermDraws", spec := "termDraws", plainKeys := false, apart := false, narrowed := true }
def TermDrawsUptoSaid : Prop := termDrawsUptoRow.holds Try.pinned (OpenSpec.upto termDrawsSpec)

/-- 'conclavelaw01.TermGrows', WHERE WHAT IT READS IS OF BULK AT MOST 1048576: true; the input reads as it did. -/
def termGrowsUptoRow : OpenClaim := { program := "ytlppagjnnlmnmaa", sum := "cf4add2d312ea472d9e4f568c9acd0dea064e8b6e31b581ad35071e63dbea7f0", func := "conclave/conclavelaw01.TermGrows", spec := "termGrows", plainKeys := false, apart := false, narrowed := true }
def TermGrowsUptoSaid : Prop := termGrowsUptoRow.holds Try.pinned (OpenSpec.upto termGrowsSpec)

/-- 'conclavelaw01.TermBounds', WHERE WHAT IT READS IS OF BULK AT MOST 1048576: true; the input reads as it did. -/
def termBoundsUptoRow : OpenClaim := { program := "ytlppagjnnlmnmaa", sum := "cf4add2d312ea472d9e4f568c9acd0dea064e8b6e31b581ad35071e63dbea7f0", func := "conclave/conclavelaw01.TermBounds", spec := "termBounds", plainKeys := false, apart := false, narrowed := true }
def TermBoundsUptoSaid : Prop := termBoundsUptoRow.holds Try.pinned (OpenSpec.upto termBoundsSpec)

/-- 'conclavelaw01.TermShut', WHERE WHAT IT READS IS OF BULK AT MOST 1048576: true; the input reads as it did. -/
def termShutUptoRow : OpenClaim := { program := "ytlppagjnnlmnmaa", sum := "cf4add2d312ea472d9e4f568c9acd0dea064e8b6e31b581ad35071e63dbea7f0", func := "conclave/conclavelaw01.TermShut", spec := "termShut", plainKeys := false, apart := false, narrowed := true }
def TermShutUptoSaid : Prop := termShutUptoRow.holds Try.pinned (OpenSpec.upto termShutSpec)

/-- 'conclavelaw01.TermLists', WHERE WHAT IT READS IS OF BULK AT MOST 1048576: true; the input reads as it did. -/
def termListsUptoRow : OpenClaim := { program := "ytlppagjnnlmnmaa", sum := "cf4add2d312ea472d9e4f568c9acd0dea064e8b6e31b581ad35071e63dbea7f0", func := "conclave/conclavelaw01.TermLists", spec := "termLists", plainKeys := false, apart := false, narrowed := true }
def TermListsUptoSaid : Prop := termListsUptoRow.holds Try.pinned (OpenSpec.upto termListsSpec)

/-- 'conclavelaw01.TermMemory', WHERE WHAT IT READS IS OF BULK AT MOST 1048576: true; the input reads as it did. -/
def termMemoryUptoRow : OpenClaim := { program := "ytlppagjnnlmnmaa", sum := "cf4add2d312ea472d9e4f568c9acd0dea064e8b6e31b581ad35071e63dbea7f0", func := "conclave/conclavelaw01.TermMemory", spec := "termMemory", plainKeys := false, apart := false, narrowed := true }
def TermMemoryUptoSaid : Prop := termMemoryUptoRow.holds Try.pinned (OpenSpec.upto termMemorySpec)

end Rows
end Go.Proofs.Ytlppagjnnlmnmaa
