/-
  DERIVED. GIVEN WITH THE SEED: THE CARDS: each row of YtknonabeagbjeaaGreatDoorRows.lean that lists a variable, with what it lists TIED to the program's text (the seventh form; the later family's looks); each row that meets fmt, with fmt's text TOLD by the authors' own Lean function (tested against real Go, not proved from fmt's source: count such statements apart). THE CARD IS WHAT COUNTS. Prove the row's statement (the work); the ties are given (YtknonabeagbjeaaGreatDoorTie.lean); close each card by the builder's one call (the guide's Derived/Test/ToyasCard.lean, 'card_holds'). Laid BY PROGRAM, IN A SANDBOX (cutbox-door.mjs). By AI agents, Wed Nov 11 2026. No macro, syntax, notation, axiom, sorry.
-/
import Derived.Test.YtknonabeagbjeaaGreatDoorRows
import GoSem.ClaimSeven
namespace Go.Proofs.YtknonabeagbjeaaGreatDoor
namespace Rows

/-- THE TIED CARD OF 'seedcorntop.SystemAssembled'. -/
def systemAssembledCard : Claim7 := { stood := { row := systemAssembledRow, standIns := [], harness := (true, "f9b4ddc86279fb8f0680cff174596a6410dc58443a92190e22b7321e806f88c5"), looks := false }, kinds := [], alts := [], laidByText := true, laidKinds := [.data, .data, .data, .data, .data, .pinned], laidTests := true, laidLooks := .later }
def SystemAssembledCardSaid : Prop := Claim7.holds Tryz.pinned (.plain (OpenSpec.ofChange systemAssembledSpec)) systemAssembledCard

/-- THE SECOND FORM's CARD OF 'seedcorntop.SystemAssembled'. -/
def systemAssembledUptoCard : Claim7 := { stood := { row := systemAssembledUptoRow, standIns := [], harness := (true, "f9b4ddc86279fb8f0680cff174596a6410dc58443a92190e22b7321e806f88c5"), looks := false }, kinds := [], alts := [], laidByText := true, laidKinds := [.data, .data, .data, .data, .data, .pinned], laidTests := true, laidLooks := .later }
def SystemAssembledUptoCardSaid : Prop := Claim7.holds Tryz.pinned (.plain (OpenSpec.upto systemAssembledSpec)) systemAssembledUptoCard
end Rows
end Go.Proofs.YtknonabeagbjeaaGreatDoor
