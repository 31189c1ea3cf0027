/-
  DERIVED. GIVEN WITH THE SEED: THE CARDS: each row of YtoenedcfojlooaaGreatDoorRows.lean that lists a variable, with what it lists TIED to the program's text (the seventh form; the later family's looks); each row that meets fmt, with fmt's text TOLD by the authors' own Lean function (tested against real Go, not proved from fmt's source: count such statements apart). THE CARD IS WHAT COUNTS. Prove the row's statement (the work); the ties are given (YtoenedcfojlooaaGreatDoorTie.lean); close each card by the builder's one call (the guide's Derived/Test/ToyasCard.lean, 'card_holds'). Laid BY PROGRAM, IN A SANDBOX (cutbox-door.mjs). By AI agents, Wed Nov 11 2026. No macro, syntax, notation, axiom, sorry.
-/
import Derived.Test.YtoenedcfojlooaaGreatDoorRows
import GoSem.ClaimSeven
namespace Go.Proofs.YtoenedcfojlooaaGreatDoor
namespace Rows

/-- THE TIED CARD OF 'seedcorntop.SystemFuel'. -/
def systemFuelCard : Claim7 := { stood := { row := systemFuelRow, standIns := [], harness := (true, "c08e9c4b06d37961c2b9d40543deed1ac55bfbe399aa7d86012b4c05c7ea820e"), looks := true }, kinds := [], alts := [], laidByText := true, laidKinds := [.data, .data], laidTests := true, laidLooks := .later }
def SystemFuelCardSaid : Prop := Claim7.holds Tryz.pinned (.plain (OpenSpec.ofChange systemFuelSpec)) systemFuelCard

/-- THE TIED CARD OF 'seedcorntop.SystemCompiled'. -/
def systemCompiledCard : Claim7 := { stood := { row := systemCompiledRow, standIns := [], harness := (true, "c08e9c4b06d37961c2b9d40543deed1ac55bfbe399aa7d86012b4c05c7ea820e"), looks := true }, kinds := [], alts := [], laidByText := true, laidKinds := [.data, .data], laidTests := true, laidLooks := .later }
def SystemCompiledCardSaid : Prop := Claim7.holds Tryz.pinned (.plain (OpenSpec.ofChange systemCompiledSpec)) systemCompiledCard

/-- THE TIED CARD OF 'seedcorntop.SystemText'. -/
def systemTextCard : Claim7 := { stood := { row := systemTextRow, standIns := [], harness := (true, "c08e9c4b06d37961c2b9d40543deed1ac55bfbe399aa7d86012b4c05c7ea820e"), looks := true }, kinds := [], alts := [], laidByText := true, laidKinds := [.data, .data, .data, .data, .data, .data], laidTests := true, laidLooks := .later }
def SystemTextCardSaid : Prop := Claim7.holds Tryz.pinned (.plain (OpenSpec.ofChange systemTextSpec)) systemTextCard

/-- THE SECOND FORM's CARD OF 'seedcorntop.SystemFuel'. -/
def systemFuelUptoCard : Claim7 := { stood := { row := systemFuelUptoRow, standIns := [], harness := (true, "c08e9c4b06d37961c2b9d40543deed1ac55bfbe399aa7d86012b4c05c7ea820e"), looks := true }, kinds := [], alts := [], laidByText := true, laidKinds := [.data, .data], laidTests := true, laidLooks := .later }
def SystemFuelUptoCardSaid : Prop := Claim7.holds Tryz.pinned (.plain (OpenSpec.upto systemFuelSpec)) systemFuelUptoCard

/-- THE SECOND FORM's CARD OF 'seedcorntop.SystemCompiled'. -/
def systemCompiledUptoCard : Claim7 := { stood := { row := systemCompiledUptoRow, standIns := [], harness := (true, "c08e9c4b06d37961c2b9d40543deed1ac55bfbe399aa7d86012b4c05c7ea820e"), looks := true }, kinds := [], alts := [], laidByText := true, laidKinds := [.data, .data], laidTests := true, laidLooks := .later }
def SystemCompiledUptoCardSaid : Prop := Claim7.holds Tryz.pinned (.plain (OpenSpec.upto systemCompiledSpec)) systemCompiledUptoCard

/-- THE SECOND FORM's CARD OF 'seedcorntop.SystemText'. -/
def systemTextUptoCard : Claim7 := { stood := { row := systemTextUptoRow, standIns := [], harness := (true, "c08e9c4b06d37961c2b9d40543deed1ac55bfbe399aa7d86012b4c05c7ea820e"), looks := true }, kinds := [], alts := [], laidByText := true, laidKinds := [.data, .data, .data, .data, .data, .data], laidTests := true, laidLooks := .later }
def SystemTextUptoCardSaid : Prop := Claim7.holds Tryz.pinned (.plain (OpenSpec.upto systemTextSpec)) systemTextUptoCard
end Rows
end Go.Proofs.YtoenedcfojlooaaGreatDoor
