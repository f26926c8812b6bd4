/-
  DERIVED. GIVEN WITH THE SEED: THE CARDS: each row of YtmioejkhhcjfpaaDoorRows.lean that lists a variable, with what it lists TIED to the program's text (the seventh form; the later family's looks); each row that meets fmt, with fmt's text TOLD by the authors' own Lean function (tested against real Go, not proved from fmt's source: count such statements apart). THE CARD IS WHAT COUNTS. Prove the row's statement (the work); the ties are given (YtmioejkhhcjfpaaDoorTie.lean); close each card by the builder's one call (the guide's Derived/Test/ToyasCard.lean, 'card_holds'). Laid BY PROGRAM, IN A SANDBOX (cutbox-door.mjs). By AI agents, Wed Nov 11 2026. No macro, syntax, notation, axiom, sorry.
-/
import Derived.Test.YtmioejkhhcjfpaaDoorRows
import GoSem.ClaimSeven
namespace Go.Proofs.YtmioejkhhcjfpaaDoor
namespace Rows

/-- THE TIED CARD OF 'conclavelaw03.HeapPathUp'. -/
def heapPathUpCard : Claim7 := { stood := { row := heapPathUpRow, standIns := [], harness := (true, "260026f51bb11e50c34321aa6130e5b3a9356904dc7f6818d99df02222e77110"), looks := false }, kinds := [], alts := [], laidByText := true, laidKinds := [.data, .data], laidTests := true, laidLooks := .later }
def HeapPathUpCardSaid : Prop := Claim7.holds Tryd.pinned (.plain (OpenSpec.ofChange heapPathUpSpec)) heapPathUpCard

/-- THE TIED CARD OF 'conclavelaw03.HeapPlaces'. -/
def heapPlacesCard : Claim7 := { stood := { row := heapPlacesRow, standIns := [], harness := (true, "260026f51bb11e50c34321aa6130e5b3a9356904dc7f6818d99df02222e77110"), looks := false }, kinds := [], alts := [], laidByText := true, laidKinds := [.data, .data], laidTests := true, laidLooks := .later }
def HeapPlacesCardSaid : Prop := Claim7.holds Tryd.pinned (.plain (OpenSpec.ofChange heapPlacesSpec)) heapPlacesCard

/-- THE TIED CARD OF 'conclavelaw03.HeapFamily'. -/
def heapFamilyCard : Claim7 := { stood := { row := heapFamilyRow, standIns := [], harness := (true, "260026f51bb11e50c34321aa6130e5b3a9356904dc7f6818d99df02222e77110"), looks := false }, kinds := [], alts := [], laidByText := true, laidKinds := [.data, .data], laidTests := true, laidLooks := .later }
def HeapFamilyCardSaid : Prop := Claim7.holds Tryd.pinned (.plain (OpenSpec.ofChange heapFamilySpec)) heapFamilyCard

/-- THE TIED CARD OF 'conclavelaw03.HeapPaths'. -/
def heapPathsCard : Claim7 := { stood := { row := heapPathsRow, standIns := [], harness := (true, "260026f51bb11e50c34321aa6130e5b3a9356904dc7f6818d99df02222e77110"), looks := false }, kinds := [], alts := [], laidByText := true, laidKinds := [.data, .data], laidTests := true, laidLooks := .later }
def HeapPathsCardSaid : Prop := Claim7.holds Tryd.pinned (.plain (OpenSpec.ofChange heapPathsSpec)) heapPathsCard

/-- THE TIED CARD OF 'conclavelaw03.HeapCovers'. -/
def heapCoversCard : Claim7 := { stood := { row := heapCoversRow, standIns := [], harness := (true, "260026f51bb11e50c34321aa6130e5b3a9356904dc7f6818d99df02222e77110"), looks := false }, kinds := [], alts := [], laidByText := true, laidKinds := [.data, .data], laidTests := true, laidLooks := .later }
def HeapCoversCardSaid : Prop := Claim7.holds Tryd.pinned (.plain (OpenSpec.ofChange heapCoversSpec)) heapCoversCard

/-- THE TIED CARD OF 'conclavelaw03.HeapCommonLow'. -/
def heapCommonLowCard : Claim7 := { stood := { row := heapCommonLowRow, standIns := [], harness := (true, "260026f51bb11e50c34321aa6130e5b3a9356904dc7f6818d99df02222e77110"), looks := false }, kinds := [], alts := [], laidByText := true, laidKinds := [.data, .data], laidTests := true, laidLooks := .later }
def HeapCommonLowCardSaid : Prop := Claim7.holds Tryd.pinned (.plain (OpenSpec.ofChange heapCommonLowSpec)) heapCommonLowCard

/-- THE SECOND FORM's CARD OF 'conclavelaw03.HeapPathUp'. -/
def heapPathUpUptoCard : Claim7 := { stood := { row := heapPathUpUptoRow, standIns := [], harness := (true, "260026f51bb11e50c34321aa6130e5b3a9356904dc7f6818d99df02222e77110"), looks := false }, kinds := [], alts := [], laidByText := true, laidKinds := [.data, .data], laidTests := true, laidLooks := .later }
def HeapPathUpUptoCardSaid : Prop := Claim7.holds Tryd.pinned (.plain (OpenSpec.upto heapPathUpSpec)) heapPathUpUptoCard

/-- THE SECOND FORM's CARD OF 'conclavelaw03.HeapPlaces'. -/
def heapPlacesUptoCard : Claim7 := { stood := { row := heapPlacesUptoRow, standIns := [], harness := (true, "260026f51bb11e50c34321aa6130e5b3a9356904dc7f6818d99df02222e77110"), looks := false }, kinds := [], alts := [], laidByText := true, laidKinds := [.data, .data], laidTests := true, laidLooks := .later }
def HeapPlacesUptoCardSaid : Prop := Claim7.holds Tryd.pinned (.plain (OpenSpec.upto heapPlacesSpec)) heapPlacesUptoCard

/-- THE SECOND FORM's CARD OF 'conclavelaw03.HeapFamily'. -/
def heapFamilyUptoCard : Claim7 := { stood := { row := heapFamilyUptoRow, standIns := [], harness := (true, "260026f51bb11e50c34321aa6130e5b3a9356904dc7f6818d99df02222e77110"), looks := false }, kinds := [], alts := [], laidByText := true, laidKinds := [.data, .data], laidTests := true, laidLooks := .later }
def HeapFamilyUptoCardSaid : Prop := Claim7.holds Tryd.pinned (.plain (OpenSpec.upto heapFamilySpec)) heapFamilyUptoCard

/-- THE SECOND FORM's CARD OF 'conclavelaw03.HeapPaths'. -/
def heapPathsUptoCard : Claim7 := { stood := { row := heapPathsUptoRow, standIns := [], harness := (true, "260026f51bb11e50c34321aa6130e5b3a9356904dc7f6818d99df02222e77110"), looks := false }, kinds := [], alts := [], laidByText := true, laidKinds := [.data, .data], laidTests := true, laidLooks := .later }
def HeapPathsUptoCardSaid : Prop := Claim7.holds Tryd.pinned (.plain (OpenSpec.upto heapPathsSpec)) heapPathsUptoCard

/-- THE SECOND FORM's CARD OF 'conclavelaw03.HeapCovers'. -/
def heapCoversUptoCard : Claim7 := { stood := { row := heapCoversUptoRow, standIns := [], harness := (true, "260026f51bb11e50c34321aa6130e5b3a9356904dc7f6818d99df02222e77110"), looks := false }, kinds := [], alts := [], laidByText := true, laidKinds := [.data, .data], laidTests := true, laidLooks := .later }
def HeapCoversUptoCardSaid : Prop := Claim7.holds Tryd.pinned (.plain (OpenSpec.upto heapCoversSpec)) heapCoversUptoCard

/-- THE SECOND FORM's CARD OF 'conclavelaw03.HeapCommonLow'. -/
def heapCommonLowUptoCard : Claim7 := { stood := { row := heapCommonLowUptoRow, standIns := [], harness := (true, "260026f51bb11e50c34321aa6130e5b3a9356904dc7f6818d99df02222e77110"), looks := false }, kinds := [], alts := [], laidByText := true, laidKinds := [.data, .data], laidTests := true, laidLooks := .later }
def HeapCommonLowUptoCardSaid : Prop := Claim7.holds Tryd.pinned (.plain (OpenSpec.upto heapCommonLowSpec)) heapCommonLowUptoCard
end Rows
end Go.Proofs.YtmioejkhhcjfpaaDoor
