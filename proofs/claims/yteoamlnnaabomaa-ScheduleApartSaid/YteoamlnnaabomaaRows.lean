/-
  No cell of these rows narrows 'for every input' (looked for: loops, veiled, ifaces, maps, wideKeys, modest, calm, conditions, laid).
  DERIVED. THE GIVEN ROWS OF THIS SEAT. 3 by the template 'for every input the law returns true; each argument reads behind the call as it read before'; 0 by the template 'total and deterministic' (their statements: YteoamlnnaabomaaTotals.lean).
  GIVEN WITH THE SEED: the statements are not yours to turn. If you find one false, say at which input.
  Laid BY PROGRAM, IN A SANDBOX (cutbox-rows.mjs): the forced cells as the released guide's own fill.sh prints them over the translation 158fcccb6d9e296b… (all of the seat's roots in one cut). By AI agents, Wed Nov 11 2026. No macro, syntax, notation, axiom, sorry.
-/
import Derived.Test.YteoamlnnaabomaaChecked
import GoSem.Claim
import GoSem.ClaimJoined
import GoSem.ClaimMapViews
import Derived.JoinedTies
import Derived.KernelRfl
namespace Go.Proofs.Yteoamlnnaabomaa
/- THE CELL 'sum', in the pinned program and in every row, IS THE sha256 OF THE DUMP (.gsa) THAT YteoamlnnaabomaaProg.lean LOADS. Nothing in Lean hashes anything: it is a label: what it is worth is what the hold of that sum in a sandbox is worth. -/
noncomputable def Try.pinned : Pinned := { name := "yteoamlnnaabomaa", sum := "158fcccb6d9e296b9b86a98dfd9ecd4f6e6531cd0d71dd704dfefbb03f267932", checked := Try.checked }
namespace Rows
def none {H : Type} : Left H := { results := [], args := [] }

/-- 'conclavelaw07.ScheduleApart': WHATEVER THE INPUT: true; the input reads as it did. -/
def scheduleApartSpec : ChangeSpec := { name := "scheduleApart", fn := fun _ => fun
  | [d1, d2] => { results := [.lit (.bool true)], args := [d1, d2] }
  | _ => none }
def scheduleApartRow : OpenClaim := { program := "yteoamlnnaabomaa", sum := "158fcccb6d9e296b9b86a98dfd9ecd4f6e6531cd0d71dd704dfefbb03f267932", func := "conclave/conclavelaw07.ScheduleApart", spec := "scheduleApart", plainKeys := false, apart := false }
def ScheduleApartSaid : Prop := scheduleApartRow.holds Try.pinned (OpenSpec.ofChange scheduleApartSpec)

/-- ITS FALSE NEIGHBOUR: 'it returns false'. Refute it at one input. -/
def scheduleApartWrong : ChangeSpec := { name := "scheduleApart", fn := fun _ => fun
  | [d1, d2] => { results := [.lit (.bool false)], args := [d1, d2] }
  | _ => none }
def ScheduleApartWrongFalsely : Prop := scheduleApartRow.holds Try.pinned (OpenSpec.ofChange scheduleApartWrong)

/-- 'conclavelaw07.ScheduleChain': WHATEVER THE INPUT: true; the input reads as it did. -/
def scheduleChainSpec : ChangeSpec := { name := "scheduleChain", fn := fun _ => fun
  | [d1, d2] => { results := [.lit (.bool true)], args := [d1, d2] }
  | _ => none }
def scheduleChainRow : OpenClaim := { program := "yteoamlnnaabomaa", sum := "158fcccb6d9e296b9b86a98dfd9ecd4f6e6531cd0d71dd704dfefbb03f267932", func := "conclave/conclavelaw07.ScheduleChain", spec := "scheduleChain", plainKeys := false, apart := false }
def ScheduleChainSaid : Prop := scheduleChainRow.holds Try.pinned (OpenSpec.ofChange scheduleChainSpec)

/-- ITS FALSE NEIGHBOUR: 'it returns false'. Refute it at one input. -/
def scheduleChainWrong : ChangeSpec := { name := "scheduleChain", fn := fun _ => fun
  | [d1, d2] => { results := [.lit (.bool false)], args := [d1, d2] }
  | _ => none }
def ScheduleChainWrongFalsely : Prop := scheduleChainRow.holds Try.pinned (OpenSpec.ofChange scheduleChainWrong)

/-- 'conclavelaw07.ScheduleExports': WHATEVER THE INPUT: true; the input reads as it did. -/
def scheduleExportsSpec : ChangeSpec := { name := "scheduleExports", fn := fun _ => fun
  | [d1, d2, d3, d4] => { results := [.lit (.bool true)], args := [d1, d2, d3, d4] }
  | _ => none }
def scheduleExportsRow : OpenClaim := { program := "yteoamlnnaabomaa", sum := "158fcccb6d9e296b9b86a98dfd9ecd4f6e6531cd0d71dd704dfefbb03f267932", func := "conclave/conclavelaw07.ScheduleExports", spec := "scheduleExports", plainKeys := false, apart := false }
def ScheduleExportsSaid : Prop := scheduleExportsRow.holds Try.pinned (OpenSpec.ofChange scheduleExportsSpec)

/-- ITS FALSE NEIGHBOUR: 'it returns false'. Refute it at one input. -/
def scheduleExportsWrong : ChangeSpec := { name := "scheduleExports", fn := fun _ => fun
  | [d1, d2, d3, d4] => { results := [.lit (.bool false)], args := [d1, d2, d3, d4] }
  | _ => none }
def ScheduleExportsWrongFalsely : Prop := scheduleExportsRow.holds Try.pinned (OpenSpec.ofChange scheduleExportsWrong)

/- THE SECOND FORM. 'bulk': how many values and letters a reading holds, each counted each time it is reached (what is shared counts as often as it is met; a slice's spare places count too). A statement '..UptoSaid' is the law's where the arguments, and the package variables that the reading takes, are together of bulk at most 1048576: NARROWER than '..Said'. Prove '..Said' where nothing that the law and all that it calls make is longer than what came in: it says more and counts as full. Else prove '..UptoSaid'. A law counts once. -/
mutual
def uptoBulk {H : Type} : DataW H → Nat
  | .lit (.string bytes) => bytes.length + 1
  | .lit _ => 1
  | .nil => 1
  | .ptr d => uptoBulk d + 1
  | .slice elems spare => uptoBulkAll elems + uptoBulkAll spare + 1
  | .agg parts => uptoBulkAll parts + 1
  | .iface _ d => uptoBulk d + 1
  | .map entries => uptoBulkEntries entries + 1
  | .held _ => 1
def uptoBulkAll {H : Type} : List (DataW H) → Nat
  | [] => 0
  | d :: r => uptoBulk d + uptoBulkAll r
def uptoBulkEntries {H : Type} : List (Lit × DataW H) → Nat
  | [] => 0
  | x :: r => uptoBulkEntry x + uptoBulkEntries r
def uptoBulkEntry {H : Type} : Lit × DataW H → Nat
  | (.string bytes, d) => bytes.length + uptoBulk d + 1
  | (_, d) => uptoBulk d + 1
 end
def uptoSmall : (H : Type) → List (DataW H) → Bool := fun _ ds => decide (uptoBulkAll ds ≤ 1048576)
def OpenSpec.upto (s : _root_.Go.ChangeSpec) : _root_.Go.OpenSpec := { _root_.Go.OpenSpec.ofChange s with cond := some uptoSmall }

/-- 'conclavelaw07.ScheduleApart', WHERE WHAT IT READS IS OF BULK AT MOST 1048576: true; the input reads as it did. -/
def scheduleApartUptoRow : OpenClaim := { program := "yteoamlnnaabomaa", sum := "158fcccb6d9e296b9b86a98dfd9ecd4f6e6531cd0d71dd704dfefbb03f267932", func := "conclave/conclavelaw07.ScheduleApart", spec := "scheduleApart", plainKeys := false, apart := false, narrowed := true }
def ScheduleApartUptoSaid : Prop := scheduleApartUptoRow.holds Try.pinned (OpenSpec.upto scheduleApartSpec)

/-- 'conclavelaw07.ScheduleChain', WHERE WHAT IT READS IS OF BULK AT MOST 1048576: true; the input reads as it did. -/
def scheduleChainUptoRow : OpenClaim := { program := "yteoamlnnaabomaa", sum := "158fcccb6d9e296b9b86a98dfd9ecd4f6e6531cd0d71dd704dfefbb03f267932", func := "conclave/conclavelaw07.ScheduleChain", spec := "scheduleChain", plainKeys := false, apart := false, narrowed := true }
def ScheduleChainUptoSaid : Prop := scheduleChainUptoRow.holds Try.pinned (OpenSpec.upto scheduleChainSpec)

/-- 'conclavelaw07.ScheduleExports', WHERE WHAT IT READS IS OF BULK AT MOST 1048576: true; the input reads as it did. -/
def scheduleExportsUptoRow : OpenClaim := { program := "yteoamlnnaabomaa", sum := "158fcccb6d9e296b9b86a98dfd9ecd4f6e6531cd0d71dd704dfefbb03f267932", func := "conclave/conclavelaw07.ScheduleExports", spec := "scheduleExports", plainKeys := false, apart := false, narrowed := true }
def ScheduleExportsUptoSaid : Prop := scheduleExportsUptoRow.holds Try.pinned (OpenSpec.upto scheduleExportsSpec)

end Rows
end Go.Proofs.Yteoamlnnaabomaa
