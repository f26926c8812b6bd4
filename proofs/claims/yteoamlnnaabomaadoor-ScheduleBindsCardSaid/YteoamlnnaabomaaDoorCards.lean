/-
  DERIVED. GIVEN WITH THE SEED: THE CARDS: each row of YteoamlnnaabomaaDoorRows.lean that lists a variable, with what it lists TIED to the program's text (the seventh form; the later family's looks); each row that meets fmt, with fmt's text TOLD by the authors' own Lean function (tested against real Go, not proved from fmt's source: count such statements apart). THE CARD IS WHAT COUNTS. Prove the row's statement (the work); the ties are given (YteoamlnnaabomaaDoorTie.lean); close each card by the builder's one call (the guide's Derived/Test/ToyasCard.lean, 'card_holds'). Laid BY PROGRAM, IN A SANDBOX (cutbox-door.mjs). By AI agents, Wed Nov 11 2026. No macro, syntax, notation, axiom, sorry.
-/
import Derived.Test.YteoamlnnaabomaaDoorRows
import GoSem.ClaimSeven
namespace Go.Proofs.YteoamlnnaabomaaDoor
namespace Rows

/-- THE TIED CARD OF 'conclavelaw07.ScheduleLine'. -/
def scheduleLineCard : Claim7 := { stood := { row := scheduleLineRow, standIns := [], harness := (true, "b035da0d03583b87d281f664a54e97a6d32ac1afd72fcf03d87eec883e4fe317"), looks := false }, kinds := [], alts := [], laidByText := true, laidKinds := [.data, .data, .data], laidTests := true, laidLooks := .later }
def ScheduleLineCardSaid : Prop := Claim7.holds Tryd.pinned (.plain (OpenSpec.ofChange scheduleLineSpec)) scheduleLineCard

/-- THE TIED CARD OF 'conclavelaw07.ScheduleBinds'. -/
def scheduleBindsCard : Claim7 := { stood := { row := scheduleBindsRow, standIns := [], harness := (true, "b035da0d03583b87d281f664a54e97a6d32ac1afd72fcf03d87eec883e4fe317"), looks := false }, kinds := [], alts := [], laidByText := true, laidKinds := [.data, .data, .data], laidTests := true, laidLooks := .later }
def ScheduleBindsCardSaid : Prop := Claim7.holds Tryd.pinned (.plain (OpenSpec.ofChange scheduleBindsSpec)) scheduleBindsCard

/-- THE TIED CARD OF 'conclavelaw07.ScheduleMakes'. -/
def scheduleMakesCard : Claim7 := { stood := { row := scheduleMakesRow, standIns := [], harness := (true, "b035da0d03583b87d281f664a54e97a6d32ac1afd72fcf03d87eec883e4fe317"), looks := false }, kinds := [], alts := [], laidByText := true, laidKinds := [.data, .data, .data], laidTests := true, laidLooks := .later }
def ScheduleMakesCardSaid : Prop := Claim7.holds Tryd.pinned (.plain (OpenSpec.ofChange scheduleMakesSpec)) scheduleMakesCard

/-- THE SECOND FORM's CARD OF 'conclavelaw07.ScheduleLine'. -/
def scheduleLineUptoCard : Claim7 := { stood := { row := scheduleLineUptoRow, standIns := [], harness := (true, "b035da0d03583b87d281f664a54e97a6d32ac1afd72fcf03d87eec883e4fe317"), looks := false }, kinds := [], alts := [], laidByText := true, laidKinds := [.data, .data, .data], laidTests := true, laidLooks := .later }
def ScheduleLineUptoCardSaid : Prop := Claim7.holds Tryd.pinned (.plain (OpenSpec.upto scheduleLineSpec)) scheduleLineUptoCard

/-- THE SECOND FORM's CARD OF 'conclavelaw07.ScheduleBinds'. -/
def scheduleBindsUptoCard : Claim7 := { stood := { row := scheduleBindsUptoRow, standIns := [], harness := (true, "b035da0d03583b87d281f664a54e97a6d32ac1afd72fcf03d87eec883e4fe317"), looks := false }, kinds := [], alts := [], laidByText := true, laidKinds := [.data, .data, .data], laidTests := true, laidLooks := .later }
def ScheduleBindsUptoCardSaid : Prop := Claim7.holds Tryd.pinned (.plain (OpenSpec.upto scheduleBindsSpec)) scheduleBindsUptoCard

/-- THE SECOND FORM's CARD OF 'conclavelaw07.ScheduleMakes'. -/
def scheduleMakesUptoCard : Claim7 := { stood := { row := scheduleMakesUptoRow, standIns := [], harness := (true, "b035da0d03583b87d281f664a54e97a6d32ac1afd72fcf03d87eec883e4fe317"), looks := false }, kinds := [], alts := [], laidByText := true, laidKinds := [.data, .data, .data], laidTests := true, laidLooks := .later }
def ScheduleMakesUptoCardSaid : Prop := Claim7.holds Tryd.pinned (.plain (OpenSpec.upto scheduleMakesSpec)) scheduleMakesUptoCard
end Rows
end Go.Proofs.YteoamlnnaabomaaDoor
