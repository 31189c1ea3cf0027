/-
  DERIVED. GIVEN WITH THE SEED: THE CARDS: each row of YthfdjfgmgoafnaaDoorRows.lean that lists a variable, with what it lists TIED to the program's text (the seventh form; the later family's looks); each row that meets fmt, with fmt's text TOLD by the authors' own Lean function (tested against real Go, not proved from fmt's source: count such statements apart). THE CARD IS WHAT COUNTS. Prove the row's statement (the work); the ties are given (YthfdjfgmgoafnaaDoorTie.lean); close each card by the builder's one call (the guide's Derived/Test/ToyasCard.lean, 'card_holds'). Laid BY PROGRAM, IN A SANDBOX (cutbox-door.mjs). By AI agents, Wed Nov 11 2026. No macro, syntax, notation, axiom, sorry.
-/
import Derived.Test.YthfdjfgmgoafnaaDoorRows
import GoSem.ClaimSeven
namespace Go.Proofs.YthfdjfgmgoafnaaDoor
namespace Rows

/-- THE TIED CARD OF 'seedcornlaw50.SeedText'. -/
def seedTextCard : Claim7 := { stood := { row := seedTextRow, standIns := [], harness := (true, "425182a603b5dc860c8dcfa6664bc51013bcb49d23ce02780ffac0fdf11a6ed2"), looks := false }, kinds := [], alts := [], laidByText := true, laidKinds := [.data, .data, .data, .data], laidTests := true, laidLooks := .later }
def SeedTextCardSaid : Prop := Claim7.holds Tryd.pinned (.plain (OpenSpec.ofChange seedTextSpec)) seedTextCard

/-- THE SECOND FORM's CARD OF 'seedcornlaw50.SeedText'. -/
def seedTextUptoCard : Claim7 := { stood := { row := seedTextUptoRow, standIns := [], harness := (true, "425182a603b5dc860c8dcfa6664bc51013bcb49d23ce02780ffac0fdf11a6ed2"), looks := false }, kinds := [], alts := [], laidByText := true, laidKinds := [.data, .data, .data, .data], laidTests := true, laidLooks := .later }
def SeedTextUptoCardSaid : Prop := Claim7.holds Tryd.pinned (.plain (OpenSpec.upto seedTextSpec)) seedTextUptoCard
end Rows
end Go.Proofs.YthfdjfgmgoafnaaDoor
