/-
  No cell of these rows narrows 'for every input' (looked for: loops, veiled, ifaces, maps, wideKeys, modest, calm, conditions, laid).
  DERIVED. THE GIVEN ROWS OF THIS SEAT. 4 by the template 'for every input the law returns true; each argument reads behind the call as it read before'; 0 by the template 'total and deterministic' (their statements: YtmdfhaihbaiegaaTotals.lean).
  GIVEN WITH THE SEED: the statements are not yours to turn. If you find one false, say at which input.
  Laid BY PROGRAM, IN A SANDBOX (cutbox-rows.mjs): the forced cells as the released guide's own fill.sh prints them over the translation cccfc849b60ff393… (all of the seat's roots in one cut). By AI agents, Wed Nov 11 2026. No macro, syntax, notation, axiom, sorry.
-/
import Derived.Test.YtmdfhaihbaiegaaChecked
import GoSem.Claim
import GoSem.ClaimJoined
import GoSem.ClaimMapViews
import Derived.JoinedTies
import Derived.KernelRfl
namespace Go.Proofs.Ytmdfhaihbaiegaa
/- THE CELL 'sum', in the pinned program and in every row, IS THE sha256 OF THE DUMP (.gsa) THAT YtmdfhaihbaiegaaProg.lean LOADS. Nothing in Lean hashes anything: it is a label: what it is worth is what the hold of that sum in a sandbox is worth. -/
noncomputable def Try.pinned : Pinned := { name := "ytmdfhaihbaiegaa", sum := "cccfc849b60ff393376aa004b31616d7744c41bb6c997e230984517b03f8f1ff", checked := Try.checked }
namespace Rows
def none {H : Type} : Left H := { results := [], args := [] }

/-- 'conclavelaw19.YaoDerives': WHATEVER THE INPUT: true; the input reads as it did. -/
def yaoDerivesSpec : ChangeSpec := { name := "yaoDerives", fn := fun _ => fun
  | [d1, d2, d3] => { results := [.lit (.bool true)], args := [d1, d2, d3] }
  | _ => none }
def yaoDerivesRow : OpenClaim := { program := "ytmdfhaihbaiegaa", sum := "cccfc849b60ff393376aa004b31616d7744c41bb6c997e230984517b03f8f1ff", func := "conclave/conclavelaw19.YaoDerives", spec := "yaoDerives", plainKeys := false, apart := false }
def YaoDerivesSaid : Prop := yaoDerivesRow.holds Try.pinned (OpenSpec.ofChange yaoDerivesSpec)

/-- ITS FALSE NEIGHBOUR: 'it returns false'. Refute it at one input. -/
def yaoDerivesWrong : ChangeSpec := { name := "yaoDerives", fn := fun _ => fun
  | [d1, d2, d3] => { results := [.lit (.bool false)], args := [d1, d2, d3] }
  | _ => none }
def YaoDerivesWrongFalsely : Prop := yaoDerivesRow.holds Try.pinned (OpenSpec.ofChange yaoDerivesWrong)

/-- 'conclavelaw19.YaoLater': WHATEVER THE INPUT: true; the input reads as it did. -/
def yaoLaterSpec : ChangeSpec := { name := "yaoLater", fn := fun _ => fun
  | [d1, d2, d3] => { results := [.lit (.bool true)], args := [d1, d2, d3] }
  | _ => none }
def yaoLaterRow : OpenClaim := { program := "ytmdfhaihbaiegaa", sum := "cccfc849b60ff393376aa004b31616d7744c41bb6c997e230984517b03f8f1ff", func := "conclave/conclavelaw19.YaoLater", spec := "yaoLater", plainKeys := false, apart := false }
def YaoLaterSaid : Prop := yaoLaterRow.holds Try.pinned (OpenSpec.ofChange yaoLaterSpec)

/-- ITS FALSE NEIGHBOUR: 'it returns false'. Refute it at one input. -/
def yaoLaterWrong : ChangeSpec := { name := "yaoLater", fn := fun _ => fun
  | [d1, d2, d3] => { results := [.lit (.bool false)], args := [d1, d2, d3] }
  | _ => none }
def YaoLaterWrongFalsely : Prop := yaoLaterRow.holds Try.pinned (OpenSpec.ofChange yaoLaterWrong)

/-- 'conclavelaw19.YaoChains': WHATEVER THE INPUT: true; the input reads as it did. -/
def yaoChainsSpec : ChangeSpec := { name := "yaoChains", fn := fun _ => fun
  | [d1, d2] => { results := [.lit (.bool true)], args := [d1, d2] }
  | _ => none }
def yaoChainsRow : OpenClaim := { program := "ytmdfhaihbaiegaa", sum := "cccfc849b60ff393376aa004b31616d7744c41bb6c997e230984517b03f8f1ff", func := "conclave/conclavelaw19.YaoChains", spec := "yaoChains", plainKeys := false, apart := false }
def YaoChainsSaid : Prop := yaoChainsRow.holds Try.pinned (OpenSpec.ofChange yaoChainsSpec)

/-- ITS FALSE NEIGHBOUR: 'it returns false'. Refute it at one input. -/
def yaoChainsWrong : ChangeSpec := { name := "yaoChains", fn := fun _ => fun
  | [d1, d2] => { results := [.lit (.bool false)], args := [d1, d2] }
  | _ => none }
def YaoChainsWrongFalsely : Prop := yaoChainsRow.holds Try.pinned (OpenSpec.ofChange yaoChainsWrong)

/-- 'conclavelaw19.YaoOneWay': WHATEVER THE INPUT: true; the input reads as it did. -/
def yaoOneWaySpec : ChangeSpec := { name := "yaoOneWay", fn := fun _ => fun
  | [d] => { results := [.lit (.bool true)], args := [d] }
  | _ => none }
def yaoOneWayRow : OpenClaim := { program := "ytmdfhaihbaiegaa", sum := "cccfc849b60ff393376aa004b31616d7744c41bb6c997e230984517b03f8f1ff", func := "conclave/conclavelaw19.YaoOneWay", spec := "yaoOneWay", plainKeys := false, apart := false }
def YaoOneWaySaid : Prop := yaoOneWayRow.holds Try.pinned (OpenSpec.ofChange yaoOneWaySpec)

/-- ITS FALSE NEIGHBOUR: 'it returns false'. Refute it at one input. -/
def yaoOneWayWrong : ChangeSpec := { name := "yaoOneWay", fn := fun _ => fun
  | [d] => { results := [.lit (.bool false)], args := [d] }
  | _ => none }
def YaoOneWayWrongFalsely : Prop := yaoOneWayRow.holds Try.pinned (OpenSpec.ofChange yaoOneWayWrong)

/- THE SECOND FORM. 'bulk': how many values and letters a reading holds, each counted each time it is reached (what is shared counts as often as it is met; a slice's spare places count too). A statement '..UptoSaid' is the law's where the arguments, and the package variables that the reading takes, are together of bulk at most 1048576: NARROWER than '..Said'. Prove '..Said' where nothing that the law and all that it calls make is longer than what came in: it says more and counts as full. Else prove '..UptoSaid'. A law counts once. -/
mutual
def uptoBulk {H : Type} : DataW H → Nat
  | .lit (.string bytes) => bytes.length + 1
  | .lit _ => 1
  | .nil => 1
  | .ptr d => uptoBulk d + 1
  | .slice elems spare => uptoBulkAll elems + uptoBulkAll spare + 1
  | .agg parts => uptoBulkAll parts + 1
  | .iface _ d => uptoBulk d + 1
  | .map entries => uptoBulkEntries entries + 1
  | .held _ => 1
def uptoBulkAll {H : Type} : List (DataW H) → Nat
  | [] => 0
  | d :: r => uptoBulk d + uptoBulkAll r
def uptoBulkEntries {H : Type} : List (Lit × DataW H) → Nat
  | [] => 0
  | x :: r => uptoBulkEntry x + uptoBulkEntries r
def uptoBulkEntry {H : Type} : Lit × DataW H → Nat
  | (.string bytes, d) => bytes.length + uptoBulk d + 1
  | (_, d) => uptoBulk d + 1
 end
def uptoSmall : (H : Type) → List (DataW H) → Bool := fun _ ds => decide (uptoBulkAll ds ≤ 1048576)
def OpenSpec.upto (s : _root_.Go.ChangeSpec) : _root_.Go.OpenSpec := { _root_.Go.OpenSpec.ofChange s with cond := some uptoSmall }

/-- 'conclavelaw19.YaoDerives', WHERE WHAT IT READS IS OF BULK AT MOST 1048576: true; the input reads as it did. -/
def yaoDerivesUptoRow : OpenClaim := { program := "ytmdfhaihbaiegaa", sum := "cccfc849b60ff393376aa004b31616d7744c41bb6c997e230984517b03f8f1ff", func := "conclave/conclavelaw19.YaoDerives", spec := "yaoDerives", plainKeys := false, apart := false, narrowed := true }
def YaoDerivesUptoSaid : Prop := yaoDerivesUptoRow.holds Try.pinned (OpenSpec.upto yaoDerivesSpec)

/-- 'conclavelaw19.YaoLater', WHERE WHAT IT READS IS OF BULK AT MOST 1048576: true; the input reads as it did. -/
def yaoLaterUptoRow : OpenClaim := { program := "ytmdfhaihbaiegaa", sum := "cccfc849b60ff393376aa004b31616d7744c41bb6c997e230984517b03f8f1ff", func := "conclave/conclavelaw19.YaoLater", spec := "yaoLater", plainKeys := false, apart := false, narrowed := true }
def YaoLaterUptoSaid : Prop := yaoLaterUptoRow.holds Try.pinned (OpenSpec.upto yaoLaterSpec)

/-- 'conclavelaw19.YaoChains', WHERE WHAT IT READS IS OF BULK AT MOST 1048576: true; the input reads as it did. -/
def yaoChainsUptoRow : OpenClaim := { program := "ytmdfhaihbaiegaa", sum := "cccfc849b60ff393376aa004b31616d7744c41bb6c997e230984517b03f8f1ff", func := "conclave/conclavelaw19.YaoChains", spec := "yaoChains", plainKeys := false, apart := false, narrowed := true }
def YaoChainsUptoSaid : Prop := yaoChainsUptoRow.holds Try.pinned (OpenSpec.upto yaoChainsSpec)

/-- 'conclavelaw19.YaoOneWay', WHERE WHAT IT READS IS OF BULK AT MOST 1048576: true; the input reads as it did. -/
def yaoOneWayUptoRow : OpenClaim := { program := "ytmdfhaihbaiegaa", sum := "cccfc849b60ff393376aa004b31616d7744c41bb6c997e230984517b03f8f1ff", func := "conclave/conclavelaw19.YaoOneWay", spec := "yaoOneWay", plainKeys := false, apart := false, narrowed := true }
def YaoOneWayUptoSaid : Prop := yaoOneWayUptoRow.holds Try.pinned (OpenSpec.upto yaoOneWaySpec)

end Rows
end Go.Proofs.Ytmdfhaihbaiegaa
