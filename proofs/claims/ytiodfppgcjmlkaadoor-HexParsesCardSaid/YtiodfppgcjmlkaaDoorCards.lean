/-
  DERIVED. GIVEN WITH THE SEED: THE CARDS: each row of YtiodfppgcjmlkaaDoorRows.lean that lists a variable, with what it lists TIED to the program's text (the seventh form; the later family's looks); each row that meets fmt, with fmt's text TOLD by the authors' own Lean function (tested against real Go, not proved from fmt's source: count such statements apart). THE CARD IS WHAT COUNTS. Prove the row's statement (the work); the ties are given (YtiodfppgcjmlkaaDoorTie.lean); close each card by the builder's one call (the guide's Derived/Test/ToyasCard.lean, 'card_holds'). Laid BY PROGRAM, IN A SANDBOX (cutbox-door.mjs). By AI agents, Wed Nov 11 2026. No macro, syntax, notation, axiom, sorry.
-/
import Derived.Test.YtiodfppgcjmlkaaDoorRows
import GoSem.ClaimSeven
namespace Go.Proofs.YtiodfppgcjmlkaaDoor
namespace Rows

/-- THE TIED CARD OF 'seedcornlaw02.HexTexts'. -/
def hexTextsCard : Claim7 := { stood := { row := hexTextsRow, standIns := [], harness := (true, "8f621b81eb74014e266799ba58cdb4e151f21af953b77217bb906de6547dc3d7"), looks := false }, kinds := [], alts := [], laidByText := true, laidKinds := [.data, .data, .data, .data], laidTests := true, laidLooks := .later }
def HexTextsCardSaid : Prop := Claim7.holds Tryd.pinned (.plain (OpenSpec.ofChange hexTextsSpec)) hexTextsCard

/-- THE TIED CARD OF 'seedcornlaw02.HexReads'. -/
def hexReadsCard : Claim7 := { stood := { row := hexReadsRow, standIns := [], harness := (true, "8f621b81eb74014e266799ba58cdb4e151f21af953b77217bb906de6547dc3d7"), looks := false }, kinds := [], alts := [], laidByText := true, laidKinds := [.data, .data, .data, .data], laidTests := true, laidLooks := .later }
def HexReadsCardSaid : Prop := Claim7.holds Tryd.pinned (.plain (OpenSpec.ofChange hexReadsSpec)) hexReadsCard

/-- THE TIED CARD OF 'seedcornlaw02.HexLoads'. -/
def hexLoadsCard : Claim7 := { stood := { row := hexLoadsRow, standIns := [], harness := (true, "8f621b81eb74014e266799ba58cdb4e151f21af953b77217bb906de6547dc3d7"), looks := false }, kinds := [], alts := [], laidByText := true, laidKinds := [.data, .data, .data, .data], laidTests := true, laidLooks := .later }
def HexLoadsCardSaid : Prop := Claim7.holds Tryd.pinned (.plain (OpenSpec.ofChange hexLoadsSpec)) hexLoadsCard

/-- THE TIED CARD OF 'seedcornlaw02.HexDumps'. -/
def hexDumpsCard : Claim7 := { stood := { row := hexDumpsRow, standIns := [], harness := (true, "8f621b81eb74014e266799ba58cdb4e151f21af953b77217bb906de6547dc3d7"), looks := false }, kinds := [], alts := [], laidByText := true, laidKinds := [.data, .data, .data, .data], laidTests := true, laidLooks := .later }
def HexDumpsCardSaid : Prop := Claim7.holds Tryd.pinned (.plain (OpenSpec.ofChange hexDumpsSpec)) hexDumpsCard

/-- THE TIED CARD OF 'seedcornlaw02.HexBack'. -/
def hexBackCard : Claim7 := { stood := { row := hexBackRow, standIns := [], harness := (true, "8f621b81eb74014e266799ba58cdb4e151f21af953b77217bb906de6547dc3d7"), looks := false }, kinds := [], alts := [], laidByText := true, laidKinds := [.data, .data, .data, .data], laidTests := true, laidLooks := .later }
def HexBackCardSaid : Prop := Claim7.holds Tryd.pinned (.plain (OpenSpec.ofChange hexBackSpec)) hexBackCard

/-- THE TIED CARD OF 'seedcornlaw02.HexNotes'. -/
def hexNotesCard : Claim7 := { stood := { row := hexNotesRow, standIns := [], harness := (true, "8f621b81eb74014e266799ba58cdb4e151f21af953b77217bb906de6547dc3d7"), looks := false }, kinds := [], alts := [], laidByText := true, laidKinds := [.data, .data, .data, .data], laidTests := true, laidLooks := .later }
def HexNotesCardSaid : Prop := Claim7.holds Tryd.pinned (.plain (OpenSpec.ofChange hexNotesSpec)) hexNotesCard

/-- THE TIED CARD OF 'seedcornlaw02.HexParses'. -/
def hexParsesCard : Claim7 := { stood := { row := hexParsesRow, standIns := [], harness := (true, "8f621b81eb74014e266799ba58cdb4e151f21af953b77217bb906de6547dc3d7"), looks := false }, kinds := [], alts := [], laidByText := true, laidKinds := [.data, .data, .data, .data], laidTests := true, laidLooks := .later }
def HexParsesCardSaid : Prop := Claim7.holds Tryd.pinned (.plain (OpenSpec.ofChange hexParsesSpec)) hexParsesCard

/-- THE SECOND FORM's CARD OF 'seedcornlaw02.HexTexts'. -/
def hexTextsUptoCard : Claim7 := { stood := { row := hexTextsUptoRow, standIns := [], harness := (true, "8f621b81eb74014e266799ba58cdb4e151f21af953b77217bb906de6547dc3d7"), looks := false }, kinds := [], alts := [], laidByText := true, laidKinds := [.data, .data, .data, .data], laidTests := true, laidLooks := .later }
def HexTextsUptoCardSaid : Prop := Claim7.holds Tryd.pinned (.plain (OpenSpec.upto hexTextsSpec)) hexTextsUptoCard

/-- THE SECOND FORM's CARD OF 'seedcornlaw02.HexReads'. -/
def hexReadsUptoCard : Claim7 := { stood := { row := hexReadsUptoRow, standIns := [], harness := (true, "8f621b81eb74014e266799ba58cdb4e151f21af953b77217bb906de6547dc3d7"), looks := false }, kinds := [], alts := [], laidByText := true, laidKinds := [.data, .data, .data, .data], laidTests := true, laidLooks := .later }
def HexReadsUptoCardSaid : Prop := Claim7.holds Tryd.pinned (.plain (OpenSpec.upto hexReadsSpec)) hexReadsUptoCard

/-- THE SECOND FORM's CARD OF 'seedcornlaw02.HexLoads'. -/
def hexLoadsUptoCard : Claim7 := { stood := { row := hexLoadsUptoRow, standIns := [], harness := (true, "8f621b81eb74014e266799ba58cdb4e151f21af953b77217bb906de6547dc3d7"), looks := false }, kinds := [], alts := [], laidByText := true, laidKinds := [.data, .data, .data, .data], laidTests := true, laidLooks := .later }
def HexLoadsUptoCardSaid : Prop := Claim7.holds Tryd.pinned (.plain (OpenSpec.upto hexLoadsSpec)) hexLoadsUptoCard

/-- THE SECOND FORM's CARD OF 'seedcornlaw02.HexDumps'. -/
def hexDumpsUptoCard : Claim7 := { stood := { row := hexDumpsUptoRow, standIns := [], harness := (true, "8f621b81eb74014e266799ba58cdb4e151f21af953b77217bb906de6547dc3d7"), looks := false }, kinds := [], alts := [], laidByText := true, laidKinds := [.data, .data, .data, .data], laidTests := true, laidLooks := .later }
def HexDumpsUptoCardSaid : Prop := Claim7.holds Tryd.pinned (.plain (OpenSpec.upto hexDumpsSpec)) hexDumpsUptoCard

/-- THE SECOND FORM's CARD OF 'seedcornlaw02.HexBack'. -/
def hexBackUptoCard : Claim7 := { stood := { row := hexBackUptoRow, standIns := [], harness := (true, "8f621b81eb74014e266799ba58cdb4e151f21af953b77217bb906de6547dc3d7"), looks := false }, kinds := [], alts := [], laidByText := true, laidKinds := [.data, .data, .data, .data], laidTests := true, laidLooks := .later }
def HexBackUptoCardSaid : Prop := Claim7.holds Tryd.pinned (.plain (OpenSpec.upto hexBackSpec)) hexBackUptoCard

/-- THE SECOND FORM's CARD OF 'seedcornlaw02.HexNotes'. -/
def hexNotesUptoCard : Claim7 := { stood := { row := hexNotesUptoRow, standIns := [], harness := (true, "8f621b81eb74014e266799ba58cdb4e151f21af953b77217bb906de6547dc3d7"), looks := false }, kinds := [], alts := [], laidByText := true, laidKinds := [.data, .data, .data, .data], laidTests := true, laidLooks := .later }
def HexNotesUptoCardSaid : Prop := Claim7.holds Tryd.pinned (.plain (OpenSpec.upto hexNotesSpec)) hexNotesUptoCard

/-- THE SECOND FORM's CARD OF 'seedcornlaw02.HexParses'. -/
def hexParsesUptoCard : Claim7 := { stood := { row := hexParsesUptoRow, standIns := [], harness := (true, "8f621b81eb74014e266799ba58cdb4e151f21af953b77217bb906de6547dc3d7"), looks := false }, kinds := [], alts := [], laidByText := true, laidKinds := [.data, .data, .data, .data], laidTests := true, laidLooks := .later }
def HexParsesUptoCardSaid : Prop := Claim7.holds Tryd.pinned (.plain (OpenSpec.upto hexParsesSpec)) hexParsesUptoCard
end Rows
end Go.Proofs.YtiodfppgcjmlkaaDoor
