/-
  DERIVED. GIVEN WITH THE SEED: THE CARDS: each row of YtekpfpikbgiblaaDoorRows.lean that lists a variable, with what it lists TIED to the program's text (the seventh form; the later family's looks); each row that meets fmt, with fmt's text TOLD by the authors' own Lean function (tested against real Go, not proved from fmt's source: count such statements apart). THE CARD IS WHAT COUNTS. Prove the row's statement (the work); the ties are given (YtekpfpikbgiblaaDoorTie.lean); close each card by the builder's one call (the guide's Derived/Test/ToyasCard.lean, 'card_holds'). Laid BY PROGRAM, IN A SANDBOX (cutbox-door.mjs). By AI agents, Wed Nov 11 2026. No macro, syntax, notation, axiom, sorry.
-/
import Derived.Test.YtekpfpikbgiblaaDoorRows
import GoSem.ClaimSeven
namespace Go.Proofs.YtekpfpikbgiblaaDoor
namespace Rows

/-- THE TIED CARD OF 'seedcornlaw03.DigestOf'. -/
def digestOfCard : Claim7 := { stood := { row := digestOfRow, standIns := [], harness := (true, "c9e398752ad370e6715afbef697c3b8ed356ff2591523b76dd29f2f741ecf69c"), looks := false }, kinds := [], alts := [], laidByText := true, laidKinds := [.data, .data], laidTests := true, laidLooks := .later }
def DigestOfCardSaid : Prop := Claim7.holds Tryd.pinned (.plain (OpenSpec.ofChange digestOfSpec)) digestOfCard

/-- THE TIED CARD OF 'seedcornlaw03.DigestSponge'. -/
def digestSpongeCard : Claim7 := { stood := { row := digestSpongeRow, standIns := [], harness := (true, "c9e398752ad370e6715afbef697c3b8ed356ff2591523b76dd29f2f741ecf69c"), looks := false }, kinds := [], alts := [], laidByText := true, laidKinds := [.data, .data], laidTests := true, laidLooks := .later }
def DigestSpongeCardSaid : Prop := Claim7.holds Tryd.pinned (.plain (OpenSpec.ofChange digestSpongeSpec)) digestSpongeCard

/-- THE TIED CARD OF 'seedcornlaw01.WordReads'. -/
def wordReadsCard : Claim7 := { stood := { row := wordReadsRow, standIns := [], harness := (true, "c9e398752ad370e6715afbef697c3b8ed356ff2591523b76dd29f2f741ecf69c"), looks := false }, kinds := [], alts := [], laidByText := true, laidKinds := [.data, .data, .data], laidTests := true, laidLooks := .later }
def WordReadsCardSaid : Prop := Claim7.holds Tryd.pinned (.plain (OpenSpec.ofChange wordReadsSpec)) wordReadsCard

/-- THE SECOND FORM's CARD OF 'seedcornlaw03.DigestOf'. -/
def digestOfUptoCard : Claim7 := { stood := { row := digestOfUptoRow, standIns := [], harness := (true, "c9e398752ad370e6715afbef697c3b8ed356ff2591523b76dd29f2f741ecf69c"), looks := false }, kinds := [], alts := [], laidByText := true, laidKinds := [.data, .data], laidTests := true, laidLooks := .later }
def DigestOfUptoCardSaid : Prop := Claim7.holds Tryd.pinned (.plain (OpenSpec.upto digestOfSpec)) digestOfUptoCard

/-- THE SECOND FORM's CARD OF 'seedcornlaw03.DigestSponge'. -/
def digestSpongeUptoCard : Claim7 := { stood := { row := digestSpongeUptoRow, standIns := [], harness := (true, "c9e398752ad370e6715afbef697c3b8ed356ff2591523b76dd29f2f741ecf69c"), looks := false }, kinds := [], alts := [], laidByText := true, laidKinds := [.data, .data], laidTests := true, laidLooks := .later }
def DigestSpongeUptoCardSaid : Prop := Claim7.holds Tryd.pinned (.plain (OpenSpec.upto digestSpongeSpec)) digestSpongeUptoCard

/-- THE SECOND FORM's CARD OF 'seedcornlaw01.WordReads'. -/
def wordReadsUptoCard : Claim7 := { stood := { row := wordReadsUptoRow, standIns := [], harness := (true, "c9e398752ad370e6715afbef697c3b8ed356ff2591523b76dd29f2f741ecf69c"), looks := false }, kinds := [], alts := [], laidByText := true, laidKinds := [.data, .data, .data], laidTests := true, laidLooks := .later }
def WordReadsUptoCardSaid : Prop := Claim7.holds Tryd.pinned (.plain (OpenSpec.upto wordReadsSpec)) wordReadsUptoCard
end Rows
end Go.Proofs.YtekpfpikbgiblaaDoor
