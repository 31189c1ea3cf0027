/-
  DERIVED. GIVEN WITH THE SEED: THE CARDS: each row of YtbhibkhmjdleoaaDoorRows.lean that lists a variable, with what it lists TIED to the program's text (the seventh form; the later family's looks); each row that meets fmt, with fmt's text TOLD by the authors' own Lean function (tested against real Go, not proved from fmt's source: count such statements apart). THE CARD IS WHAT COUNTS. Prove the row's statement (the work); the ties are given (YtbhibkhmjdleoaaDoorTie.lean); close each card by the builder's one call (the guide's Derived/Test/ToyasCard.lean, 'card_holds'). Laid BY PROGRAM, IN A SANDBOX (cutbox-door.mjs). By AI agents, Wed Nov 11 2026. No macro, syntax, notation, axiom, sorry.
-/
import Derived.Test.YtbhibkhmjdleoaaDoorRows
import GoSem.ClaimSeven
namespace Go.Proofs.YtbhibkhmjdleoaaDoor
namespace Rows

/-- THE TIED CARD OF 'seedcornlaw03.DigestMixes'. -/
def digestMixesCard : Claim7 := { stood := { row := digestMixesRow, standIns := [], harness := (true, "5c7acdcaf6a6cbe36c13df5f14e9f96cbd8d30bdfb591da728144ad135d96f7d"), looks := false }, kinds := [], alts := [], laidByText := true, laidKinds := [.data, .data], laidTests := true, laidLooks := .later }
def DigestMixesCardSaid : Prop := Claim7.holds Tryd.pinned (.plain (OpenSpec.ofChange digestMixesSpec)) digestMixesCard

/-- THE TIED CARD OF 'seedcornlaw03.DigestBack'. -/
def digestBackCard : Claim7 := { stood := { row := digestBackRow, standIns := [], harness := (true, "5c7acdcaf6a6cbe36c13df5f14e9f96cbd8d30bdfb591da728144ad135d96f7d"), looks := false }, kinds := [], alts := [], laidByText := true, laidKinds := [.data, .data], laidTests := true, laidLooks := .later }
def DigestBackCardSaid : Prop := Claim7.holds Tryd.pinned (.plain (OpenSpec.ofChange digestBackSpec)) digestBackCard

/-- THE TIED CARD OF 'seedcornlaw03.DigestTexts'. -/
def digestTextsCard : Claim7 := { stood := { row := digestTextsRow, standIns := [], harness := (true, "5c7acdcaf6a6cbe36c13df5f14e9f96cbd8d30bdfb591da728144ad135d96f7d"), looks := false }, kinds := [], alts := [], laidByText := true, laidKinds := [.data, .data], laidTests := true, laidLooks := .later }
def DigestTextsCardSaid : Prop := Claim7.holds Tryd.pinned (.plain (OpenSpec.ofChange digestTextsSpec)) digestTextsCard

/-- THE TIED CARD OF 'seedcornlaw03.DigestReads'. -/
def digestReadsCard : Claim7 := { stood := { row := digestReadsRow, standIns := [], harness := (true, "5c7acdcaf6a6cbe36c13df5f14e9f96cbd8d30bdfb591da728144ad135d96f7d"), looks := false }, kinds := [], alts := [], laidByText := true, laidKinds := [.data, .data], laidTests := true, laidLooks := .later }
def DigestReadsCardSaid : Prop := Claim7.holds Tryd.pinned (.plain (OpenSpec.ofChange digestReadsSpec)) digestReadsCard

/-- THE TIED CARD OF 'seedcornlaw03.DigestPairs'. -/
def digestPairsCard : Claim7 := { stood := { row := digestPairsRow, standIns := [], harness := (true, "5c7acdcaf6a6cbe36c13df5f14e9f96cbd8d30bdfb591da728144ad135d96f7d"), looks := false }, kinds := [], alts := [], laidByText := true, laidKinds := [.data, .data], laidTests := true, laidLooks := .later }
def DigestPairsCardSaid : Prop := Claim7.holds Tryd.pinned (.plain (OpenSpec.ofChange digestPairsSpec)) digestPairsCard

/-- THE TIED CARD OF 'seedcornlaw03.DigestChain'. -/
def digestChainCard : Claim7 := { stood := { row := digestChainRow, standIns := [], harness := (true, "5c7acdcaf6a6cbe36c13df5f14e9f96cbd8d30bdfb591da728144ad135d96f7d"), looks := false }, kinds := [], alts := [], laidByText := true, laidKinds := [.data, .data], laidTests := true, laidLooks := .later }
def DigestChainCardSaid : Prop := Claim7.holds Tryd.pinned (.plain (OpenSpec.ofChange digestChainSpec)) digestChainCard

/-- THE TIED CARD OF 'seedcornlaw03.DigestOf'. -/
def digestOfCard : Claim7 := { stood := { row := digestOfRow, standIns := [], harness := (true, "5c7acdcaf6a6cbe36c13df5f14e9f96cbd8d30bdfb591da728144ad135d96f7d"), looks := false }, kinds := [], alts := [], laidByText := true, laidKinds := [.data, .data], laidTests := true, laidLooks := .later }
def DigestOfCardSaid : Prop := Claim7.holds Tryd.pinned (.plain (OpenSpec.ofChange digestOfSpec)) digestOfCard

/-- THE TIED CARD OF 'seedcornlaw03.DigestSponge'. -/
def digestSpongeCard : Claim7 := { stood := { row := digestSpongeRow, standIns := [], harness := (true, "5c7acdcaf6a6cbe36c13df5f14e9f96cbd8d30bdfb591da728144ad135d96f7d"), looks := false }, kinds := [], alts := [], laidByText := true, laidKinds := [.data, .data], laidTests := true, laidLooks := .later }
def DigestSpongeCardSaid : Prop := Claim7.holds Tryd.pinned (.plain (OpenSpec.ofChange digestSpongeSpec)) digestSpongeCard

/-- THE SECOND FORM's CARD OF 'seedcornlaw03.DigestMixes'. -/
def digestMixesUptoCard : Claim7 := { stood := { row := digestMixesUptoRow, standIns := [], harness := (true, "5c7acdcaf6a6cbe36c13df5f14e9f96cbd8d30bdfb591da728144ad135d96f7d"), looks := false }, kinds := [], alts := [], laidByText := true, laidKinds := [.data, .data], laidTests := true, laidLooks := .later }
def DigestMixesUptoCardSaid : Prop := Claim7.holds Tryd.pinned (.plain (OpenSpec.upto digestMixesSpec)) digestMixesUptoCard

/-- THE SECOND FORM's CARD OF 'seedcornlaw03.DigestBack'. -/
def digestBackUptoCard : Claim7 := { stood := { row := digestBackUptoRow, standIns := [], harness := (true, "5c7acdcaf6a6cbe36c13df5f14e9f96cbd8d30bdfb591da728144ad135d96f7d"), looks := false }, kinds := [], alts := [], laidByText := true, laidKinds := [.data, .data], laidTests := true, laidLooks := .later }
def DigestBackUptoCardSaid : Prop := Claim7.holds Tryd.pinned (.plain (OpenSpec.upto digestBackSpec)) digestBackUptoCard

/-- THE SECOND FORM's CARD OF 'seedcornlaw03.DigestTexts'. -/
def digestTextsUptoCard : Claim7 := { stood := { row := digestTextsUptoRow, standIns := [], harness := (true, "5c7acdcaf6a6cbe36c13df5f14e9f96cbd8d30bdfb591da728144ad135d96f7d"), looks := false }, kinds := [], alts := [], laidByText := true, laidKinds := [.data, .data], laidTests := true, laidLooks := .later }
def DigestTextsUptoCardSaid : Prop := Claim7.holds Tryd.pinned (.plain (OpenSpec.upto digestTextsSpec)) digestTextsUptoCard

/-- THE SECOND FORM's CARD OF 'seedcornlaw03.DigestReads'. -/
def digestReadsUptoCard : Claim7 := { stood := { row := digestReadsUptoRow, standIns := [], harness := (true, "5c7acdcaf6a6cbe36c13df5f14e9f96cbd8d30bdfb591da728144ad135d96f7d"), looks := false }, kinds := [], alts := [], laidByText := true, laidKinds := [.data, .data], laidTests := true, laidLooks := .later }
def DigestReadsUptoCardSaid : Prop := Claim7.holds Tryd.pinned (.plain (OpenSpec.upto digestReadsSpec)) digestReadsUptoCard

/-- THE SECOND FORM's CARD OF 'seedcornlaw03.DigestPairs'. -/
def digestPairsUptoCard : Claim7 := { stood := { row := digestPairsUptoRow, standIns := [], harness := (true, "5c7acdcaf6a6cbe36c13df5f14e9f96cbd8d30bdfb591da728144ad135d96f7d"), looks := false }, kinds := [], alts := [], laidByText := true, laidKinds := [.data, .data], laidTests := true, laidLooks := .later }
def DigestPairsUptoCardSaid : Prop := Claim7.holds Tryd.pinned (.plain (OpenSpec.upto digestPairsSpec)) digestPairsUptoCard

/-- THE SECOND FORM's CARD OF 'seedcornlaw03.DigestChain'. -/
def digestChainUptoCard : Claim7 := { stood := { row := digestChainUptoRow, standIns := [], harness := (true, "5c7acdcaf6a6cbe36c13df5f14e9f96cbd8d30bdfb591da728144ad135d96f7d"), looks := false }, kinds := [], alts := [], laidByText := true, laidKinds := [.data, .data], laidTests := true, laidLooks := .later }
def DigestChainUptoCardSaid : Prop := Claim7.holds Tryd.pinned (.plain (OpenSpec.upto digestChainSpec)) digestChainUptoCard

/-- THE SECOND FORM's CARD OF 'seedcornlaw03.DigestOf'. -/
def digestOfUptoCard : Claim7 := { stood := { row := digestOfUptoRow, standIns := [], harness := (true, "5c7acdcaf6a6cbe36c13df5f14e9f96cbd8d30bdfb591da728144ad135d96f7d"), looks := false }, kinds := [], alts := [], laidByText := true, laidKinds := [.data, .data], laidTests := true, laidLooks := .later }
def DigestOfUptoCardSaid : Prop := Claim7.holds Tryd.pinned (.plain (OpenSpec.upto digestOfSpec)) digestOfUptoCard

/-- THE SECOND FORM's CARD OF 'seedcornlaw03.DigestSponge'. -/
def digestSpongeUptoCard : Claim7 := { stood := { row := digestSpongeUptoRow, standIns := [], harness := (true, "5c7acdcaf6a6cbe36c13df5f14e9f96cbd8d30bdfb591da728144ad135d96f7d"), looks := false }, kinds := [], alts := [], laidByText := true, laidKinds := [.data, .data], laidTests := true, laidLooks := .later }
def DigestSpongeUptoCardSaid : Prop := Claim7.holds Tryd.pinned (.plain (OpenSpec.upto digestSpongeSpec)) digestSpongeUptoCard
end Rows
end Go.Proofs.YtbhibkhmjdleoaaDoor
