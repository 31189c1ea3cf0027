/-
  DERIVED. GIVEN WITH THE SEED: THE CARDS: each row of YtneebohaanjejaaDoorRows.lean that lists a variable, with what it lists TIED to the program's text (the seventh form; the later family's looks); each row that meets fmt, with fmt's text TOLD by the authors' own Lean function (tested against real Go, not proved from fmt's source: count such statements apart). THE CARD IS WHAT COUNTS. Prove the row's statement (the work); the ties are given (YtneebohaanjejaaDoorTie.lean); close each card by the builder's one call (the guide's Derived/Test/ToyasCard.lean, 'card_holds'). Laid BY PROGRAM, IN A SANDBOX (cutbox-door.mjs). By AI agents, Wed Nov 11 2026. No macro, syntax, notation, axiom, sorry.
-/
import Derived.Test.YtneebohaanjejaaDoorRows
import GoSem.ClaimSeven
namespace Go.Proofs.YtneebohaanjejaaDoor
namespace Rows

/-- THE TIED CARD OF 'seedcornlaw50.SeedText'. -/
def seedTextCard : Claim7 := { stood := { row := seedTextRow, standIns := [], harness := (true, "3e705ad0616f09b1eafca423911985451589f761e73c5f9e7f0c244df57c446b"), looks := false }, kinds := [], alts := [], laidByText := true, laidKinds := [.data, .data, .data, .data], laidTests := true, laidLooks := .later }
def SeedTextCardSaid : Prop := Claim7.holds Tryd.pinned (.plain (OpenSpec.ofChange seedTextSpec)) seedTextCard

/-- THE TIED CARD OF 'seedcornlaw11.ListingTargets'. -/
def listingTargetsCard : Claim7 := { stood := { row := listingTargetsRow, standIns := [], harness := (true, "3e705ad0616f09b1eafca423911985451589f761e73c5f9e7f0c244df57c446b"), looks := false }, kinds := [], alts := [], laidByText := true, laidKinds := [.data, .data, .data], laidTests := true, laidLooks := .later }
def ListingTargetsCardSaid : Prop := Claim7.holds Tryd.pinned (.plain (OpenSpec.ofChange listingTargetsSpec)) listingTargetsCard

/-- THE TIED CARD OF 'seedcornlaw11.ListingText'. -/
def listingTextCard : Claim7 := { stood := { row := listingTextRow, standIns := [], harness := (true, "3e705ad0616f09b1eafca423911985451589f761e73c5f9e7f0c244df57c446b"), looks := false }, kinds := [], alts := [], laidByText := true, laidKinds := [.data, .data, .data], laidTests := true, laidLooks := .later }
def ListingTextCardSaid : Prop := Claim7.holds Tryd.pinned (.plain (OpenSpec.ofChange listingTextSpec)) listingTextCard

/-- THE TIED CARD OF 'seedcornlaw11.ListingLines'. -/
def listingLinesCard : Claim7 := { stood := { row := listingLinesRow, standIns := [], harness := (true, "3e705ad0616f09b1eafca423911985451589f761e73c5f9e7f0c244df57c446b"), looks := false }, kinds := [], alts := [], laidByText := true, laidKinds := [.data, .data, .data], laidTests := true, laidLooks := .later }
def ListingLinesCardSaid : Prop := Claim7.holds Tryd.pinned (.plain (OpenSpec.ofChange listingLinesSpec)) listingLinesCard

/-- THE TIED CARD OF 'seedcornlaw11.ListingPlaces'. -/
def listingPlacesCard : Claim7 := { stood := { row := listingPlacesRow, standIns := [], harness := (true, "3e705ad0616f09b1eafca423911985451589f761e73c5f9e7f0c244df57c446b"), looks := false }, kinds := [], alts := [], laidByText := true, laidKinds := [.data, .data, .data], laidTests := true, laidLooks := .later }
def ListingPlacesCardSaid : Prop := Claim7.holds Tryd.pinned (.plain (OpenSpec.ofChange listingPlacesSpec)) listingPlacesCard

/-- THE TIED CARD OF 'seedcornlaw11.ListingApart'. -/
def listingApartCard : Claim7 := { stood := { row := listingApartRow, standIns := [], harness := (true, "3e705ad0616f09b1eafca423911985451589f761e73c5f9e7f0c244df57c446b"), looks := false }, kinds := [], alts := [], laidByText := true, laidKinds := [.data, .data, .data], laidTests := true, laidLooks := .later }
def ListingApartCardSaid : Prop := Claim7.holds Tryd.pinned (.plain (OpenSpec.ofChange listingApartSpec)) listingApartCard

/-- THE TIED CARD OF 'seedcornlaw11.ListingGoesOn'. -/
def listingGoesOnCard : Claim7 := { stood := { row := listingGoesOnRow, standIns := [], harness := (true, "3e705ad0616f09b1eafca423911985451589f761e73c5f9e7f0c244df57c446b"), looks := false }, kinds := [], alts := [], laidByText := true, laidKinds := [.data, .data, .data], laidTests := true, laidLooks := .later }
def ListingGoesOnCardSaid : Prop := Claim7.holds Tryd.pinned (.plain (OpenSpec.ofChange listingGoesOnSpec)) listingGoesOnCard

/-- THE TIED CARD OF 'seedcornlaw11.ListingData'. -/
def listingDataCard : Claim7 := { stood := { row := listingDataRow, standIns := [], harness := (true, "3e705ad0616f09b1eafca423911985451589f761e73c5f9e7f0c244df57c446b"), looks := false }, kinds := [], alts := [], laidByText := true, laidKinds := [.data, .data, .data], laidTests := true, laidLooks := .later }
def ListingDataCardSaid : Prop := Claim7.holds Tryd.pinned (.plain (OpenSpec.ofChange listingDataSpec)) listingDataCard

/-- THE SECOND FORM's CARD OF 'seedcornlaw50.SeedText'. -/
def seedTextUptoCard : Claim7 := { stood := { row := seedTextUptoRow, standIns := [], harness := (true, "3e705ad0616f09b1eafca423911985451589f761e73c5f9e7f0c244df57c446b"), looks := false }, kinds := [], alts := [], laidByText := true, laidKinds := [.data, .data, .data, .data], laidTests := true, laidLooks := .later }
def SeedTextUptoCardSaid : Prop := Claim7.holds Tryd.pinned (.plain (OpenSpec.upto seedTextSpec)) seedTextUptoCard

/-- THE SECOND FORM's CARD OF 'seedcornlaw11.ListingTargets'. -/
def listingTargetsUptoCard : Claim7 := { stood := { row := listingTargetsUptoRow, standIns := [], harness := (true, "3e705ad0616f09b1eafca423911985451589f761e73c5f9e7f0c244df57c446b"), looks := false }, kinds := [], alts := [], laidByText := true, laidKinds := [.data, .data, .data], laidTests := true, laidLooks := .later }
def ListingTargetsUptoCardSaid : Prop := Claim7.holds Tryd.pinned (.plain (OpenSpec.upto listingTargetsSpec)) listingTargetsUptoCard

/-- THE SECOND FORM's CARD OF 'seedcornlaw11.ListingText'. -/
def listingTextUptoCard : Claim7 := { stood := { row := listingTextUptoRow, standIns := [], harness := (true, "3e705ad0616f09b1eafca423911985451589f761e73c5f9e7f0c244df57c446b"), looks := false }, kinds := [], alts := [], laidByText := true, laidKinds := [.data, .data, .data], laidTests := true, laidLooks := .later }
def ListingTextUptoCardSaid : Prop := Claim7.holds Tryd.pinned (.plain (OpenSpec.upto listingTextSpec)) listingTextUptoCard

/-- THE SECOND FORM's CARD OF 'seedcornlaw11.ListingLines'. -/
def listingLinesUptoCard : Claim7 := { stood := { row := listingLinesUptoRow, standIns := [], harness := (true, "3e705ad0616f09b1eafca423911985451589f761e73c5f9e7f0c244df57c446b"), looks := false }, kinds := [], alts := [], laidByText := true, laidKinds := [.data, .data, .data], laidTests := true, laidLooks := .later }
def ListingLinesUptoCardSaid : Prop := Claim7.holds Tryd.pinned (.plain (OpenSpec.upto listingLinesSpec)) listingLinesUptoCard

/-- THE SECOND FORM's CARD OF 'seedcornlaw11.ListingPlaces'. -/
def listingPlacesUptoCard : Claim7 := { stood := { row := listingPlacesUptoRow, standIns := [], harness := (true, "3e705ad0616f09b1eafca423911985451589f761e73c5f9e7f0c244df57c446b"), looks := false }, kinds := [], alts := [], laidByText := true, laidKinds := [.data, .data, .data], laidTests := true, laidLooks := .later }
def ListingPlacesUptoCardSaid : Prop := Claim7.holds Tryd.pinned (.plain (OpenSpec.upto listingPlacesSpec)) listingPlacesUptoCard

/-- THE SECOND FORM's CARD OF 'seedcornlaw11.ListingApart'. -/
def listingApartUptoCard : Claim7 := { stood := { row := listingApartUptoRow, standIns := [], harness := (true, "3e705ad0616f09b1eafca423911985451589f761e73c5f9e7f0c244df57c446b"), looks := false }, kinds := [], alts := [], laidByText := true, laidKinds := [.data, .data, .data], laidTests := true, laidLooks := .later }
def ListingApartUptoCardSaid : Prop := Claim7.holds Tryd.pinned (.plain (OpenSpec.upto listingApartSpec)) listingApartUptoCard

/-- THE SECOND FORM's CARD OF 'seedcornlaw11.ListingGoesOn'. -/
def listingGoesOnUptoCard : Claim7 := { stood := { row := listingGoesOnUptoRow, standIns := [], harness := (true, "3e705ad0616f09b1eafca423911985451589f761e73c5f9e7f0c244df57c446b"), looks := false }, kinds := [], alts := [], laidByText := true, laidKinds := [.data, .data, .data], laidTests := true, laidLooks := .later }
def ListingGoesOnUptoCardSaid : Prop := Claim7.holds Tryd.pinned (.plain (OpenSpec.upto listingGoesOnSpec)) listingGoesOnUptoCard

/-- THE SECOND FORM's CARD OF 'seedcornlaw11.ListingData'. -/
def listingDataUptoCard : Claim7 := { stood := { row := listingDataUptoRow, standIns := [], harness := (true, "3e705ad0616f09b1eafca423911985451589f761e73c5f9e7f0c244df57c446b"), looks := false }, kinds := [], alts := [], laidByText := true, laidKinds := [.data, .data, .data], laidTests := true, laidLooks := .later }
def ListingDataUptoCardSaid : Prop := Claim7.holds Tryd.pinned (.plain (OpenSpec.upto listingDataSpec)) listingDataUptoCard
end Rows
end Go.Proofs.YtneebohaanjejaaDoor
