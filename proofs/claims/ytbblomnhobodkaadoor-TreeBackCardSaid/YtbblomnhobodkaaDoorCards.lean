/-
  DERIVED. GIVEN WITH THE SEED: THE CARDS: each row of YtbblomnhobodkaaDoorRows.lean that lists a variable, with what it lists TIED to the program's text (the seventh form; the later family's looks); each row that meets fmt, with fmt's text TOLD by the authors' own Lean function (tested against real Go, not proved from fmt's source: count such statements apart). THE CARD IS WHAT COUNTS. Prove the row's statement (the work); the ties are given (YtbblomnhobodkaaDoorTie.lean); close each card by the builder's one call (the guide's Derived/Test/ToyasCard.lean, 'card_holds'). Laid BY PROGRAM, IN A SANDBOX (cutbox-door.mjs). By AI agents, Wed Nov 11 2026. No macro, syntax, notation, axiom, sorry.
-/
import Derived.Test.YtbblomnhobodkaaDoorRows
import GoSem.ClaimSeven
namespace Go.Proofs.YtbblomnhobodkaaDoor
namespace Rows

/-- THE TIED CARD OF 'conclavelaw04.TreeChecks'. -/
def treeChecksCard : Claim7 := { stood := { row := treeChecksRow, standIns := [], harness := (true, "0101acfa713fa29e5e466cea1ea4c20c7cdaef73b5785793732e520e87994c9b"), looks := false }, kinds := [], alts := [], laidByText := true, laidKinds := [.data, .data], laidTests := true, laidLooks := .later }
def TreeChecksCardSaid : Prop := Claim7.holds Tryd.pinned (.plain (OpenSpec.ofChange treeChecksSpec)) treeChecksCard

/-- THE TIED CARD OF 'conclavelaw04.TreeMemory'. -/
def treeMemoryCard : Claim7 := { stood := { row := treeMemoryRow, standIns := [], harness := (true, "0101acfa713fa29e5e466cea1ea4c20c7cdaef73b5785793732e520e87994c9b"), looks := false }, kinds := [], alts := [], laidByText := true, laidKinds := [.data, .data], laidTests := true, laidLooks := .later }
def TreeMemoryCardSaid : Prop := Claim7.holds Tryd.pinned (.plain (OpenSpec.ofChange treeMemorySpec)) treeMemoryCard

/-- THE TIED CARD OF 'conclavelaw04.TreeReaches'. -/
def treeReachesCard : Claim7 := { stood := { row := treeReachesRow, standIns := [], harness := (true, "0101acfa713fa29e5e466cea1ea4c20c7cdaef73b5785793732e520e87994c9b"), looks := false }, kinds := [], alts := [], laidByText := true, laidKinds := [.data, .data], laidTests := true, laidLooks := .later }
def TreeReachesCardSaid : Prop := Claim7.holds Tryd.pinned (.plain (OpenSpec.ofChange treeReachesSpec)) treeReachesCard

/-- THE TIED CARD OF 'conclavelaw04.TreeGrows'. -/
def treeGrowsCard : Claim7 := { stood := { row := treeGrowsRow, standIns := [], harness := (true, "0101acfa713fa29e5e466cea1ea4c20c7cdaef73b5785793732e520e87994c9b"), looks := false }, kinds := [], alts := [], laidByText := true, laidKinds := [.data, .data], laidTests := true, laidLooks := .later }
def TreeGrowsCardSaid : Prop := Claim7.holds Tryd.pinned (.plain (OpenSpec.ofChange treeGrowsSpec)) treeGrowsCard

/-- THE TIED CARD OF 'conclavelaw04.TreeLate'. -/
def treeLateCard : Claim7 := { stood := { row := treeLateRow, standIns := [], harness := (true, "0101acfa713fa29e5e466cea1ea4c20c7cdaef73b5785793732e520e87994c9b"), looks := false }, kinds := [], alts := [], laidByText := true, laidKinds := [.data, .data], laidTests := true, laidLooks := .later }
def TreeLateCardSaid : Prop := Claim7.holds Tryd.pinned (.plain (OpenSpec.ofChange treeLateSpec)) treeLateCard

/-- THE TIED CARD OF 'conclavelaw04.TreeBack'. -/
def treeBackCard : Claim7 := { stood := { row := treeBackRow, standIns := [], harness := (true, "0101acfa713fa29e5e466cea1ea4c20c7cdaef73b5785793732e520e87994c9b"), looks := false }, kinds := [], alts := [], laidByText := true, laidKinds := [.data, .data], laidTests := true, laidLooks := .later }
def TreeBackCardSaid : Prop := Claim7.holds Tryd.pinned (.plain (OpenSpec.ofChange treeBackSpec)) treeBackCard

/-- THE TIED CARD OF 'conclavelaw04.TreeHoles'. -/
def treeHolesCard : Claim7 := { stood := { row := treeHolesRow, standIns := [], harness := (true, "0101acfa713fa29e5e466cea1ea4c20c7cdaef73b5785793732e520e87994c9b"), looks := false }, kinds := [], alts := [], laidByText := true, laidKinds := [.data, .data], laidTests := true, laidLooks := .later }
def TreeHolesCardSaid : Prop := Claim7.holds Tryd.pinned (.plain (OpenSpec.ofChange treeHolesSpec)) treeHolesCard

/-- THE TIED CARD OF 'conclavelaw04.TreeUpdates'. -/
def treeUpdatesCard : Claim7 := { stood := { row := treeUpdatesRow, standIns := [], harness := (true, "0101acfa713fa29e5e466cea1ea4c20c7cdaef73b5785793732e520e87994c9b"), looks := false }, kinds := [], alts := [], laidByText := true, laidKinds := [.data, .data], laidTests := true, laidLooks := .later }
def TreeUpdatesCardSaid : Prop := Claim7.holds Tryd.pinned (.plain (OpenSpec.ofChange treeUpdatesSpec)) treeUpdatesCard

/-- THE TIED CARD OF 'conclavelaw04.TreePlays'. -/
def treePlaysCard : Claim7 := { stood := { row := treePlaysRow, standIns := [], harness := (true, "0101acfa713fa29e5e466cea1ea4c20c7cdaef73b5785793732e520e87994c9b"), looks := false }, kinds := [], alts := [], laidByText := true, laidKinds := [.data, .data], laidTests := true, laidLooks := .later }
def TreePlaysCardSaid : Prop := Claim7.holds Tryd.pinned (.plain (OpenSpec.ofChange treePlaysSpec)) treePlaysCard

/-- THE TIED CARD OF 'conclavelaw04.TreeRight'. -/
def treeRightCard : Claim7 := { stood := { row := treeRightRow, standIns := [], harness := (true, "0101acfa713fa29e5e466cea1ea4c20c7cdaef73b5785793732e520e87994c9b"), looks := false }, kinds := [], alts := [], laidByText := true, laidKinds := [.data, .data], laidTests := true, laidLooks := .later }
def TreeRightCardSaid : Prop := Claim7.holds Tryd.pinned (.plain (OpenSpec.ofChange treeRightSpec)) treeRightCard

/-- THE SECOND FORM's CARD OF 'conclavelaw04.TreeChecks'. -/
def treeChecksUptoCard : Claim7 := { stood := { row := treeChecksUptoRow, standIns := [], harness := (true, "0101acfa713fa29e5e466cea1ea4c20c7cdaef73b5785793732e520e87994c9b"), looks := false }, kinds := [], alts := [], laidByText := true, laidKinds := [.data, .data], laidTests := true, laidLooks := .later }
def TreeChecksUptoCardSaid : Prop := Claim7.holds Tryd.pinned (.plain (OpenSpec.upto treeChecksSpec)) treeChecksUptoCard

/-- THE SECOND FORM's CARD OF 'conclavelaw04.TreeMemory'. -/
def treeMemoryUptoCard : Claim7 := { stood := { row := treeMemoryUptoRow, standIns := [], harness := (true, "0101acfa713fa29e5e466cea1ea4c20c7cdaef73b5785793732e520e87994c9b"), looks := false }, kinds := [], alts := [], laidByText := true, laidKinds := [.data, .data], laidTests := true, laidLooks := .later }
def TreeMemoryUptoCardSaid : Prop := Claim7.holds Tryd.pinned (.plain (OpenSpec.upto treeMemorySpec)) treeMemoryUptoCard

/-- THE SECOND FORM's CARD OF 'conclavelaw04.TreeReaches'. -/
def treeReachesUptoCard : Claim7 := { stood := { row := treeReachesUptoRow, standIns := [], harness := (true, "0101acfa713fa29e5e466cea1ea4c20c7cdaef73b5785793732e520e87994c9b"), looks := false }, kinds := [], alts := [], laidByText := true, laidKinds := [.data, .data], laidTests := true, laidLooks := .later }
def TreeReachesUptoCardSaid : Prop := Claim7.holds Tryd.pinned (.plain (OpenSpec.upto treeReachesSpec)) treeReachesUptoCard

/-- THE SECOND FORM's CARD OF 'conclavelaw04.TreeGrows'. -/
def treeGrowsUptoCard : Claim7 := { stood := { row := treeGrowsUptoRow, standIns := [], harness := (true, "0101acfa713fa29e5e466cea1ea4c20c7cdaef73b5785793732e520e87994c9b"), looks := false }, kinds := [], alts := [], laidByText := true, laidKinds := [.data, .data], laidTests := true, laidLooks := .later }
def TreeGrowsUptoCardSaid : Prop := Claim7.holds Tryd.pinned (.plain (OpenSpec.upto treeGrowsSpec)) treeGrowsUptoCard

/-- THE SECOND FORM's CARD OF 'conclavelaw04.TreeLate'. -/
def treeLateUptoCard : Claim7 := { stood := { row := treeLateUptoRow, standIns := [], harness := (true, "0101acfa713fa29e5e466cea1ea4c20c7cdaef73b5785793732e520e87994c9b"), looks := false }, kinds := [], alts := [], laidByText := true, laidKinds := [.data, .data], laidTests := true, laidLooks := .later }
def TreeLateUptoCardSaid : Prop := Claim7.holds Tryd.pinned (.plain (OpenSpec.upto treeLateSpec)) treeLateUptoCard

/-- THE SECOND FORM's CARD OF 'conclavelaw04.TreeBack'. -/
def treeBackUptoCard : Claim7 := { stood := { row := treeBackUptoRow, standIns := [], harness := (true, "0101acfa713fa29e5e466cea1ea4c20c7cdaef73b5785793732e520e87994c9b"), looks := false }, kinds := [], alts := [], laidByText := true, laidKinds := [.data, .data], laidTests := true, laidLooks := .later }
def TreeBackUptoCardSaid : Prop := Claim7.holds Tryd.pinned (.plain (OpenSpec.upto treeBackSpec)) treeBackUptoCard

/-- THE SECOND FORM's CARD OF 'conclavelaw04.TreeHoles'. -/
def treeHolesUptoCard : Claim7 := { stood := { row := treeHolesUptoRow, standIns := [], harness := (true, "0101acfa713fa29e5e466cea1ea4c20c7cdaef73b5785793732e520e87994c9b"), looks := false }, kinds := [], alts := [], laidByText := true, laidKinds := [.data, .data], laidTests := true, laidLooks := .later }
def TreeHolesUptoCardSaid : Prop := Claim7.holds Tryd.pinned (.plain (OpenSpec.upto treeHolesSpec)) treeHolesUptoCard

/-- THE SECOND FORM's CARD OF 'conclavelaw04.TreeUpdates'. -/
def treeUpdatesUptoCard : Claim7 := { stood := { row := treeUpdatesUptoRow, standIns := [], harness := (true, "0101acfa713fa29e5e466cea1ea4c20c7cdaef73b5785793732e520e87994c9b"), looks := false }, kinds := [], alts := [], laidByText := true, laidKinds := [.data, .data], laidTests := true, laidLooks := .later }
def TreeUpdatesUptoCardSaid : Prop := Claim7.holds Tryd.pinned (.plain (OpenSpec.upto treeUpdatesSpec)) treeUpdatesUptoCard

/-- THE SECOND FORM's CARD OF 'conclavelaw04.TreePlays'. -/
def treePlaysUptoCard : Claim7 := { stood := { row := treePlaysUptoRow, standIns := [], harness := (true, "0101acfa713fa29e5e466cea1ea4c20c7cdaef73b5785793732e520e87994c9b"), looks := false }, kinds := [], alts := [], laidByText := true, laidKinds := [.data, .data], laidTests := true, laidLooks := .later }
def TreePlaysUptoCardSaid : Prop := Claim7.holds Tryd.pinned (.plain (OpenSpec.upto treePlaysSpec)) treePlaysUptoCard

/-- THE SECOND FORM's CARD OF 'conclavelaw04.TreeRight'. -/
def treeRightUptoCard : Claim7 := { stood := { row := treeRightUptoRow, standIns := [], harness := (true, "0101acfa713fa29e5e466cea1ea4c20c7cdaef73b5785793732e520e87994c9b"), looks := false }, kinds := [], alts := [], laidByText := true, laidKinds := [.data, .data], laidTests := true, laidLooks := .later }
def TreeRightUptoCardSaid : Prop := Claim7.holds Tryd.pinned (.plain (OpenSpec.upto treeRightSpec)) treeRightUptoCard
end Rows
end Go.Proofs.YtbblomnhobodkaaDoor
