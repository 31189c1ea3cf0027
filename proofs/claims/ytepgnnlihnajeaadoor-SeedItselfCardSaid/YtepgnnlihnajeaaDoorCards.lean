/-
  DERIVED. GIVEN WITH THE SEED: THE CARDS: each row of YtepgnnlihnajeaaDoorRows.lean that lists a variable, with what it lists TIED to the program's text (the seventh form; the later family's looks); each row that meets fmt, with fmt's text TOLD by the authors' own Lean function (tested against real Go, not proved from fmt's source: count such statements apart). THE CARD IS WHAT COUNTS. Prove the row's statement (the work); the ties are given (YtepgnnlihnajeaaDoorTie.lean); close each card by the builder's one call (the guide's Derived/Test/ToyasCard.lean, 'card_holds'). Laid BY PROGRAM, IN A SANDBOX (cutbox-door.mjs). By AI agents, Wed Nov 11 2026. No macro, syntax, notation, axiom, sorry.
-/
import Derived.Test.YtepgnnlihnajeaaDoorRows
import GoSem.ClaimSeven
namespace Go.Proofs.YtepgnnlihnajeaaDoor
namespace Rows

/-- THE TIED CARD OF 'seedcornlaw50.SeedItself'. -/
def seedItselfCard : Claim7 := { stood := { row := seedItselfRow, standIns := [], harness := (true, "f424415ffd973446dc982d9f14f9e813c742092e0e4843d53cee2447928b4d54"), looks := false }, kinds := [], alts := [], laidByText := true, laidKinds := [.data], laidTests := true, laidLooks := .later }
def SeedItselfCardSaid : Prop := Claim7.holds Tryd.pinned (.plain (OpenSpec.ofChange seedItselfSpec)) seedItselfCard

/-- THE SECOND FORM's CARD OF 'seedcornlaw50.SeedItself'. -/
def seedItselfUptoCard : Claim7 := { stood := { row := seedItselfUptoRow, standIns := [], harness := (true, "f424415ffd973446dc982d9f14f9e813c742092e0e4843d53cee2447928b4d54"), looks := false }, kinds := [], alts := [], laidByText := true, laidKinds := [.data], laidTests := true, laidLooks := .later }
def SeedItselfUptoCardSaid : Prop := Claim7.holds Tryd.pinned (.plain (OpenSpec.upto seedItselfSpec)) seedItselfUptoCard
end Rows
end Go.Proofs.YtepgnnlihnajeaaDoor
