/-
  DERIVED. GIVEN WITH THE SEED: THE CARDS: each row of YteljmaebhjhedaaDoorRows.lean that lists a variable, with what it lists TIED to the program's text (the seventh form; the later family's looks); each row that meets fmt, with fmt's text TOLD by the authors' own Lean function (tested against real Go, not proved from fmt's source: count such statements apart). THE CARD IS WHAT COUNTS. Prove the row's statement (the work); the ties are given (YteljmaebhjhedaaDoorTie.lean); close each card by the builder's one call (the guide's Derived/Test/ToyasCard.lean, 'card_holds'). Laid BY PROGRAM, IN A SANDBOX (cutbox-door.mjs). By AI agents, Wed Nov 11 2026. No macro, syntax, notation, axiom, sorry.
-/
import Derived.Test.YteljmaebhjhedaaDoorRows
import GoSem.ClaimSeven
namespace Go.Proofs.YteljmaebhjhedaaDoor
namespace Rows

/-- THE TIED CARD OF 'conclavelaw09.CardForged'. -/
def cardForgedCard : Claim7 := { stood := { row := cardForgedRow, standIns := [], harness := (true, "52abb91e1ffcad7548653d7858870fb5e84fe3333b01e0d8b2aa86d15e3d9906"), looks := false }, kinds := [], alts := [], laidByText := true, laidKinds := [.data, .data, .data], laidTests := true, laidLooks := .later }
def CardForgedCardSaid : Prop := Claim7.holds Tryd.pinned (.plain (OpenSpec.ofChange cardForgedSpec)) cardForgedCard

/-- THE TIED CARD OF 'conclavelaw09.CardTimes'. -/
def cardTimesCard : Claim7 := { stood := { row := cardTimesRow, standIns := [], harness := (true, "52abb91e1ffcad7548653d7858870fb5e84fe3333b01e0d8b2aa86d15e3d9906"), looks := false }, kinds := [], alts := [], laidByText := true, laidKinds := [.data, .data, .data], laidTests := true, laidLooks := .later }
def CardTimesCardSaid : Prop := Claim7.holds Tryd.pinned (.plain (OpenSpec.ofChange cardTimesSpec)) cardTimesCard

/-- THE TIED CARD OF 'conclavelaw09.CardChecks'. -/
def cardChecksCard : Claim7 := { stood := { row := cardChecksRow, standIns := [], harness := (true, "52abb91e1ffcad7548653d7858870fb5e84fe3333b01e0d8b2aa86d15e3d9906"), looks := false }, kinds := [], alts := [], laidByText := true, laidKinds := [.data, .data, .data], laidTests := true, laidLooks := .later }
def CardChecksCardSaid : Prop := Claim7.holds Tryd.pinned (.plain (OpenSpec.ofChange cardChecksSpec)) cardChecksCard

/-- THE TIED CARD OF 'conclavelaw09.CardNames'. -/
def cardNamesCard : Claim7 := { stood := { row := cardNamesRow, standIns := [], harness := (true, "52abb91e1ffcad7548653d7858870fb5e84fe3333b01e0d8b2aa86d15e3d9906"), looks := false }, kinds := [], alts := [], laidByText := true, laidKinds := [.data, .data, .data], laidTests := true, laidLooks := .later }
def CardNamesCardSaid : Prop := Claim7.holds Tryd.pinned (.plain (OpenSpec.ofChange cardNamesSpec)) cardNamesCard

/-- THE SECOND FORM's CARD OF 'conclavelaw09.CardForged'. -/
def cardForgedUptoCard : Claim7 := { stood := { row := cardForgedUptoRow, standIns := [], harness := (true, "52abb91e1ffcad7548653d7858870fb5e84fe3333b01e0d8b2aa86d15e3d9906"), looks := false }, kinds := [], alts := [], laidByText := true, laidKinds := [.data, .data, .data], laidTests := true, laidLooks := .later }
def CardForgedUptoCardSaid : Prop := Claim7.holds Tryd.pinned (.plain (OpenSpec.upto cardForgedSpec)) cardForgedUptoCard

/-- THE SECOND FORM's CARD OF 'conclavelaw09.CardTimes'. -/
def cardTimesUptoCard : Claim7 := { stood := { row := cardTimesUptoRow, standIns := [], harness := (true, "52abb91e1ffcad7548653d7858870fb5e84fe3333b01e0d8b2aa86d15e3d9906"), looks := false }, kinds := [], alts := [], laidByText := true, laidKinds := [.data, .data, .data], laidTests := true, laidLooks := .later }
def CardTimesUptoCardSaid : Prop := Claim7.holds Tryd.pinned (.plain (OpenSpec.upto cardTimesSpec)) cardTimesUptoCard

/-- THE SECOND FORM's CARD OF 'conclavelaw09.CardChecks'. -/
def cardChecksUptoCard : Claim7 := { stood := { row := cardChecksUptoRow, standIns := [], harness := (true, "52abb91e1ffcad7548653d7858870fb5e84fe3333b01e0d8b2aa86d15e3d9906"), looks := false }, kinds := [], alts := [], laidByText := true, laidKinds := [.data, .data, .data], laidTests := true, laidLooks := .later }
def CardChecksUptoCardSaid : Prop := Claim7.holds Tryd.pinned (.plain (OpenSpec.upto cardChecksSpec)) cardChecksUptoCard

/-- THE SECOND FORM's CARD OF 'conclavelaw09.CardNames'. -/
def cardNamesUptoCard : Claim7 := { stood := { row := cardNamesUptoRow, standIns := [], harness := (true, "52abb91e1ffcad7548653d7858870fb5e84fe3333b01e0d8b2aa86d15e3d9906"), looks := false }, kinds := [], alts := [], laidByText := true, laidKinds := [.data, .data, .data], laidTests := true, laidLooks := .later }
def CardNamesUptoCardSaid : Prop := Claim7.holds Tryd.pinned (.plain (OpenSpec.upto cardNamesSpec)) cardNamesUptoCard
end Rows
end Go.Proofs.YteljmaebhjhedaaDoor
