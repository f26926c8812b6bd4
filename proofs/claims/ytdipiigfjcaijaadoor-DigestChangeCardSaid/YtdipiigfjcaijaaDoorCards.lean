/-
  DERIVED. GIVEN WITH THE SEED: THE CARDS: each row of YtdipiigfjcaijaaDoorRows.lean that lists a variable, with what it lists TIED to the program's text (the seventh form; the later family's looks); each row that meets fmt, with fmt's text TOLD by the authors' own Lean function (tested against real Go, not proved from fmt's source: count such statements apart). THE CARD IS WHAT COUNTS. Prove the row's statement (the work); the ties are given (YtdipiigfjcaijaaDoorTie.lean); close each card by the builder's one call (the guide's Derived/Test/ToyasCard.lean, 'card_holds'). Laid BY PROGRAM, IN A SANDBOX (cutbox-door.mjs). By AI agents, Wed Nov 11 2026. No macro, syntax, notation, axiom, sorry.
-/
import Derived.Test.YtdipiigfjcaijaaDoorRows
import GoSem.ClaimSeven
namespace Go.Proofs.YtdipiigfjcaijaaDoor
namespace Rows

/-- THE TIED CARD OF 'conclavelaw05.DigestTells'. -/
def digestTellsCard : Claim7 := { stood := { row := digestTellsRow, standIns := [], harness := (true, "d061542ec51c6a84184d79b9222deb6a8894947a43e0eaa76473e73b98d41a04"), looks := false }, kinds := [], alts := [], laidByText := true, laidKinds := [.data, .data, .data], laidTests := true, laidLooks := .later }
def DigestTellsCardSaid : Prop := Claim7.holds Tryd.pinned (.plain (OpenSpec.ofChange digestTellsSpec)) digestTellsCard

/-- THE TIED CARD OF 'conclavelaw05.DigestChange'. -/
def digestChangeCard : Claim7 := { stood := { row := digestChangeRow, standIns := [], harness := (true, "d061542ec51c6a84184d79b9222deb6a8894947a43e0eaa76473e73b98d41a04"), looks := false }, kinds := [], alts := [], laidByText := true, laidKinds := [.data, .data, .data], laidTests := true, laidLooks := .later }
def DigestChangeCardSaid : Prop := Claim7.holds Tryd.pinned (.plain (OpenSpec.ofChange digestChangeSpec)) digestChangeCard

/-- THE TIED CARD OF 'conclavelaw05.DigestNumbers'. -/
def digestNumbersCard : Claim7 := { stood := { row := digestNumbersRow, standIns := [], harness := (true, "d061542ec51c6a84184d79b9222deb6a8894947a43e0eaa76473e73b98d41a04"), looks := false }, kinds := [], alts := [], laidByText := true, laidKinds := [.data, .data, .data], laidTests := true, laidLooks := .later }
def DigestNumbersCardSaid : Prop := Claim7.holds Tryd.pinned (.plain (OpenSpec.ofChange digestNumbersSpec)) digestNumbersCard

/-- THE TIED CARD OF 'conclavelaw05.DigestHashes'. -/
def digestHashesCard : Claim7 := { stood := { row := digestHashesRow, standIns := [], harness := (true, "d061542ec51c6a84184d79b9222deb6a8894947a43e0eaa76473e73b98d41a04"), looks := false }, kinds := [], alts := [], laidByText := true, laidKinds := [.data, .data, .data], laidTests := true, laidLooks := .later }
def DigestHashesCardSaid : Prop := Claim7.holds Tryd.pinned (.plain (OpenSpec.ofChange digestHashesSpec)) digestHashesCard

/-- THE TIED CARD OF 'conclavelaw05.DigestBelow'. -/
def digestBelowCard : Claim7 := { stood := { row := digestBelowRow, standIns := [], harness := (true, "d061542ec51c6a84184d79b9222deb6a8894947a43e0eaa76473e73b98d41a04"), looks := false }, kinds := [], alts := [], laidByText := true, laidKinds := [.data, .data, .data], laidTests := true, laidLooks := .later }
def DigestBelowCardSaid : Prop := Claim7.holds Tryd.pinned (.plain (OpenSpec.ofChange digestBelowSpec)) digestBelowCard

/-- THE TIED CARD OF 'conclavelaw05.DigestAlone'. -/
def digestAloneCard : Claim7 := { stood := { row := digestAloneRow, standIns := [], harness := (true, "d061542ec51c6a84184d79b9222deb6a8894947a43e0eaa76473e73b98d41a04"), looks := false }, kinds := [], alts := [], laidByText := true, laidKinds := [.data, .data, .data], laidTests := true, laidLooks := .later }
def DigestAloneCardSaid : Prop := Claim7.holds Tryd.pinned (.plain (OpenSpec.ofChange digestAloneSpec)) digestAloneCard

/-- THE TIED CARD OF 'conclavelaw05.DigestParents'. -/
def digestParentsCard : Claim7 := { stood := { row := digestParentsRow, standIns := [], harness := (true, "d061542ec51c6a84184d79b9222deb6a8894947a43e0eaa76473e73b98d41a04"), looks := false }, kinds := [], alts := [], laidByText := true, laidKinds := [.data, .data, .data], laidTests := true, laidLooks := .later }
def DigestParentsCardSaid : Prop := Claim7.holds Tryd.pinned (.plain (OpenSpec.ofChange digestParentsSpec)) digestParentsCard

/-- THE SECOND FORM's CARD OF 'conclavelaw05.DigestTells'. -/
def digestTellsUptoCard : Claim7 := { stood := { row := digestTellsUptoRow, standIns := [], harness := (true, "d061542ec51c6a84184d79b9222deb6a8894947a43e0eaa76473e73b98d41a04"), looks := false }, kinds := [], alts := [], laidByText := true, laidKinds := [.data, .data, .data], laidTests := true, laidLooks := .later }
def DigestTellsUptoCardSaid : Prop := Claim7.holds Tryd.pinned (.plain (OpenSpec.upto digestTellsSpec)) digestTellsUptoCard

/-- THE SECOND FORM's CARD OF 'conclavelaw05.DigestChange'. -/
def digestChangeUptoCard : Claim7 := { stood := { row := digestChangeUptoRow, standIns := [], harness := (true, "d061542ec51c6a84184d79b9222deb6a8894947a43e0eaa76473e73b98d41a04"), looks := false }, kinds := [], alts := [], laidByText := true, laidKinds := [.data, .data, .data], laidTests := true, laidLooks := .later }
def DigestChangeUptoCardSaid : Prop := Claim7.holds Tryd.pinned (.plain (OpenSpec.upto digestChangeSpec)) digestChangeUptoCard

/-- THE SECOND FORM's CARD OF 'conclavelaw05.DigestNumbers'. -/
def digestNumbersUptoCard : Claim7 := { stood := { row := digestNumbersUptoRow, standIns := [], harness := (true, "d061542ec51c6a84184d79b9222deb6a8894947a43e0eaa76473e73b98d41a04"), looks := false }, kinds := [], alts := [], laidByText := true, laidKinds := [.data, .data, .data], laidTests := true, laidLooks := .later }
def DigestNumbersUptoCardSaid : Prop := Claim7.holds Tryd.pinned (.plain (OpenSpec.upto digestNumbersSpec)) digestNumbersUptoCard

/-- THE SECOND FORM's CARD OF 'conclavelaw05.DigestHashes'. -/
def digestHashesUptoCard : Claim7 := { stood := { row := digestHashesUptoRow, standIns := [], harness := (true, "d061542ec51c6a84184d79b9222deb6a8894947a43e0eaa76473e73b98d41a04"), looks := false }, kinds := [], alts := [], laidByText := true, laidKinds := [.data, .data, .data], laidTests := true, laidLooks := .later }
def DigestHashesUptoCardSaid : Prop := Claim7.holds Tryd.pinned (.plain (OpenSpec.upto digestHashesSpec)) digestHashesUptoCard

/-- THE SECOND FORM's CARD OF 'conclavelaw05.DigestBelow'. -/
def digestBelowUptoCard : Claim7 := { stood := { row := digestBelowUptoRow, standIns := [], harness := (true, "d061542ec51c6a84184d79b9222deb6a8894947a43e0eaa76473e73b98d41a04"), looks := false }, kinds := [], alts := [], laidByText := true, laidKinds := [.data, .data, .data], laidTests := true, laidLooks := .later }
def DigestBelowUptoCardSaid : Prop := Claim7.holds Tryd.pinned (.plain (OpenSpec.upto digestBelowSpec)) digestBelowUptoCard

/-- THE SECOND FORM's CARD OF 'conclavelaw05.DigestAlone'. -/
def digestAloneUptoCard : Claim7 := { stood := { row := digestAloneUptoRow, standIns := [], harness := (true, "d061542ec51c6a84184d79b9222deb6a8894947a43e0eaa76473e73b98d41a04"), looks := false }, kinds := [], alts := [], laidByText := true, laidKinds := [.data, .data, .data], laidTests := true, laidLooks := .later }
def DigestAloneUptoCardSaid : Prop := Claim7.holds Tryd.pinned (.plain (OpenSpec.upto digestAloneSpec)) digestAloneUptoCard

/-- THE SECOND FORM's CARD OF 'conclavelaw05.DigestParents'. -/
def digestParentsUptoCard : Claim7 := { stood := { row := digestParentsUptoRow, standIns := [], harness := (true, "d061542ec51c6a84184d79b9222deb6a8894947a43e0eaa76473e73b98d41a04"), looks := false }, kinds := [], alts := [], laidByText := true, laidKinds := [.data, .data, .data], laidTests := true, laidLooks := .later }
def DigestParentsUptoCardSaid : Prop := Claim7.holds Tryd.pinned (.plain (OpenSpec.upto digestParentsSpec)) digestParentsUptoCard
end Rows
end Go.Proofs.YtdipiigfjcaijaaDoor
