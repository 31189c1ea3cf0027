/-
  DERIVED. GIVEN WITH THE SEED: THE CARDS: each row of YtdkkomcokefkhaaDoorRows.lean that lists a variable, with what it lists TIED to the program's text (the seventh form; the later family's looks); each row that meets fmt, with fmt's text TOLD by the authors' own Lean function (tested against real Go, not proved from fmt's source: count such statements apart). THE CARD IS WHAT COUNTS. Prove the row's statement (the work); the ties are given (YtdkkomcokefkhaaDoorTie.lean); close each card by the builder's one call (the guide's Derived/Test/ToyasCard.lean, 'card_holds'). Laid BY PROGRAM, IN A SANDBOX (cutbox-door.mjs). By AI agents, Wed Nov 11 2026. No macro, syntax, notation, axiom, sorry.
-/
import Derived.Test.YtdkkomcokefkhaaDoorRows
import GoSem.ClaimSeven
namespace Go.Proofs.YtdkkomcokefkhaaDoor
namespace Rows

/-- THE TIED CARD OF 'seedcornlaw37.RecipePuts'. -/
def recipePutsCard : Claim7 := { stood := { row := recipePutsRow, standIns := [], harness := (true, "2630f46f96712528447de6c5181134392512651c144a5e9d1a0a26dcc9d9e3c2"), looks := false }, kinds := [], alts := [], laidByText := true, laidKinds := [.data], laidTests := true, laidLooks := .later }
def RecipePutsCardSaid : Prop := Claim7.holds Tryd.pinned (.plain (OpenSpec.ofChange recipePutsSpec)) recipePutsCard

/-- THE TIED CARD OF 'seedcornlaw37.RecipeReads'. -/
def recipeReadsCard : Claim7 := { stood := { row := recipeReadsRow, standIns := [], harness := (true, "2630f46f96712528447de6c5181134392512651c144a5e9d1a0a26dcc9d9e3c2"), looks := false }, kinds := [], alts := [], laidByText := true, laidKinds := [.data], laidTests := true, laidLooks := .later }
def RecipeReadsCardSaid : Prop := Claim7.holds Tryd.pinned (.plain (OpenSpec.ofChange recipeReadsSpec)) recipeReadsCard

/-- THE TIED CARD OF 'seedcornlaw37.RecipeApart'. -/
def recipeApartCard : Claim7 := { stood := { row := recipeApartRow, standIns := [], harness := (true, "2630f46f96712528447de6c5181134392512651c144a5e9d1a0a26dcc9d9e3c2"), looks := false }, kinds := [], alts := [], laidByText := true, laidKinds := [.data], laidTests := true, laidLooks := .later }
def RecipeApartCardSaid : Prop := Claim7.holds Tryd.pinned (.plain (OpenSpec.ofChange recipeApartSpec)) recipeApartCard

/-- THE TIED CARD OF 'seedcornlaw37.RecipePrefix'. -/
def recipePrefixCard : Claim7 := { stood := { row := recipePrefixRow, standIns := [], harness := (true, "2630f46f96712528447de6c5181134392512651c144a5e9d1a0a26dcc9d9e3c2"), looks := false }, kinds := [], alts := [], laidByText := true, laidKinds := [.data], laidTests := true, laidLooks := .later }
def RecipePrefixCardSaid : Prop := Claim7.holds Tryd.pinned (.plain (OpenSpec.ofChange recipePrefixSpec)) recipePrefixCard

/-- THE TIED CARD OF 'seedcornlaw37.RecipeRight'. -/
def recipeRightCard : Claim7 := { stood := { row := recipeRightRow, standIns := [], harness := (true, "2630f46f96712528447de6c5181134392512651c144a5e9d1a0a26dcc9d9e3c2"), looks := false }, kinds := [], alts := [], laidByText := true, laidKinds := [.data], laidTests := true, laidLooks := .later }
def RecipeRightCardSaid : Prop := Claim7.holds Tryd.pinned (.plain (OpenSpec.ofChange recipeRightSpec)) recipeRightCard

/-- THE TIED CARD OF 'seedcornlaw37.RecipeSwaps'. -/
def recipeSwapsCard : Claim7 := { stood := { row := recipeSwapsRow, standIns := [], harness := (true, "2630f46f96712528447de6c5181134392512651c144a5e9d1a0a26dcc9d9e3c2"), looks := false }, kinds := [], alts := [], laidByText := true, laidKinds := [.data], laidTests := true, laidLooks := .later }
def RecipeSwapsCardSaid : Prop := Claim7.holds Tryd.pinned (.plain (OpenSpec.ofChange recipeSwapsSpec)) recipeSwapsCard

/-- THE SECOND FORM's CARD OF 'seedcornlaw37.RecipePuts'. -/
def recipePutsUptoCard : Claim7 := { stood := { row := recipePutsUptoRow, standIns := [], harness := (true, "2630f46f96712528447de6c5181134392512651c144a5e9d1a0a26dcc9d9e3c2"), looks := false }, kinds := [], alts := [], laidByText := true, laidKinds := [.data], laidTests := true, laidLooks := .later }
def RecipePutsUptoCardSaid : Prop := Claim7.holds Tryd.pinned (.plain (OpenSpec.upto recipePutsSpec)) recipePutsUptoCard

/-- THE SECOND FORM's CARD OF 'seedcornlaw37.RecipeReads'. -/
def recipeReadsUptoCard : Claim7 := { stood := { row := recipeReadsUptoRow, standIns := [], harness := (true, "2630f46f96712528447de6c5181134392512651c144a5e9d1a0a26dcc9d9e3c2"), looks := false }, kinds := [], alts := [], laidByText := true, laidKinds := [.data], laidTests := true, laidLooks := .later }
def RecipeReadsUptoCardSaid : Prop := Claim7.holds Tryd.pinned (.plain (OpenSpec.upto recipeReadsSpec)) recipeReadsUptoCard

/-- THE SECOND FORM's CARD OF 'seedcornlaw37.RecipeApart'. -/
def recipeApartUptoCard : Claim7 := { stood := { row := recipeApartUptoRow, standIns := [], harness := (true, "2630f46f96712528447de6c5181134392512651c144a5e9d1a0a26dcc9d9e3c2"), looks := false }, kinds := [], alts := [], laidByText := true, laidKinds := [.data], laidTests := true, laidLooks := .later }
def RecipeApartUptoCardSaid : Prop := Claim7.holds Tryd.pinned (.plain (OpenSpec.upto recipeApartSpec)) recipeApartUptoCard

/-- THE SECOND FORM's CARD OF 'seedcornlaw37.RecipePrefix'. -/
def recipePrefixUptoCard : Claim7 := { stood := { row := recipePrefixUptoRow, standIns := [], harness := (true, "2630f46f96712528447de6c5181134392512651c144a5e9d1a0a26dcc9d9e3c2"), looks := false }, kinds := [], alts := [], laidByText := true, laidKinds := [.data], laidTests := true, laidLooks := .later }
def RecipePrefixUptoCardSaid : Prop := Claim7.holds Tryd.pinned (.plain (OpenSpec.upto recipePrefixSpec)) recipePrefixUptoCard

/-- THE SECOND FORM's CARD OF 'seedcornlaw37.RecipeRight'. -/
def recipeRightUptoCard : Claim7 := { stood := { row := recipeRightUptoRow, standIns := [], harness := (true, "2630f46f96712528447de6c5181134392512651c144a5e9d1a0a26dcc9d9e3c2"), looks := false }, kinds := [], alts := [], laidByText := true, laidKinds := [.data], laidTests := true, laidLooks := .later }
def RecipeRightUptoCardSaid : Prop := Claim7.holds Tryd.pinned (.plain (OpenSpec.upto recipeRightSpec)) recipeRightUptoCard

/-- THE SECOND FORM's CARD OF 'seedcornlaw37.RecipeSwaps'. -/
def recipeSwapsUptoCard : Claim7 := { stood := { row := recipeSwapsUptoRow, standIns := [], harness := (true, "2630f46f96712528447de6c5181134392512651c144a5e9d1a0a26dcc9d9e3c2"), looks := false }, kinds := [], alts := [], laidByText := true, laidKinds := [.data], laidTests := true, laidLooks := .later }
def RecipeSwapsUptoCardSaid : Prop := Claim7.holds Tryd.pinned (.plain (OpenSpec.upto recipeSwapsSpec)) recipeSwapsUptoCard
end Rows
end Go.Proofs.YtdkkomcokefkhaaDoor
