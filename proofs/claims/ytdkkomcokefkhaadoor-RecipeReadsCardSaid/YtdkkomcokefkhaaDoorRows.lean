/-
  NARROWER THAN 'FOR EVERY INPUT', by the rows' own cells (each row's printed sentence says how): RecipePuts: laid · RecipeReads: laid · RecipeApart: laid · RecipePrefix: laid · RecipeRight: laid · RecipeSwaps: laid.
  DERIVED. THE GIVEN ROWS OF THIS SEAT. 6 by the template 'for every input the law returns true; each argument reads behind the call as it read before'; 0 by the template 'total and deterministic' (their statements: YtdkkomcokefkhaaDoorTotals.lean).
  GIVEN WITH THE SEED: the statements are not yours to turn. If you find one false, say at which input.
  Laid BY PROGRAM, IN A SANDBOX (cutbox-rows.mjs): the forced cells as the released guide's own fill.sh prints them over the translation 863f364868cdb53a… (all of the seat's roots in one cut). By AI agents, Wed Nov 11 2026. No macro, syntax, notation, axiom, sorry.
-/
import Derived.Test.YtdkkomcokefkhaaDoorChecked
import GoSem.Claim
import GoSem.ClaimJoined
import GoSem.ClaimMapViews
import Derived.JoinedTies
import Derived.KernelRfl
namespace Go.Proofs.YtdkkomcokefkhaaDoor
/- THE CELL 'sum', in the pinned program and in every row, IS THE sha256 OF THE DUMP (.gsa) THAT YtdkkomcokefkhaaDoorProg.lean LOADS. Nothing in Lean hashes anything: it is a label: what it is worth is what the hold of that sum in a sandbox is worth. -/
noncomputable def Tryd.pinned : Pinned := { name := "ytdkkomcokefkhaadoor", sum := "863f364868cdb53aaf030270dabb0489da0cc98b5b94dc37cb06042a037302b9", checked := Tryd.checked }
namespace Rows
def none {H : Type} : Left H := { results := [], args := [] }

/- WHAT THE LISTED PACKAGE-LEVEL VARIABLES READ AS WHEN THE CALL BEGINS. Each datum BY PROGRAM (the guide's laid-datum.mjs) off the statement by which the dump's own 'gosem.cut.vars' lays the variable. In a bare row this is a premise. The card (YtdkkomcokefkhaaDoorCards.lean) ties it to the program's text. -/
def laid_seedcorn_digest_places {H : Type} : DataW H := .agg [.lit (.int .i64 7), .lit (.int .i64 9), .lit (.int .i64 13), .lit (.int .i64 18)]

/-- 'seedcornlaw37.RecipePuts': WHATEVER THE INPUT: true; the input reads as it did. -/
def recipePutsSpec : ChangeSpec := { name := "recipePuts", fn := fun _ => fun
  | [d] => { results := [.lit (.bool true)], args := [d] }
  | _ => none }
def recipePutsRow : OpenClaim := { program := "ytdkkomcokefkhaadoor", sum := "863f364868cdb53aaf030270dabb0489da0cc98b5b94dc37cb06042a037302b9", func := "seedcorn/seedcornlaw37.RecipePuts", spec := "recipePuts", unfollowed := true, recurses := true, named := ["seedcorn/digest.places"], apart := false, laid := [("seedcorn/digest.places", laid_seedcorn_digest_places)] }
def RecipePutsSaid : Prop := recipePutsRow.holds Tryd.pinned (OpenSpec.ofChange recipePutsSpec)

/-- ITS FALSE NEIGHBOUR: 'it returns false'. Refute it at one input. -/
def recipePutsWrong : ChangeSpec := { name := "recipePuts", fn := fun _ => fun
  | [d] => { results := [.lit (.bool false)], args := [d] }
  | _ => none }
def RecipePutsWrongFalsely : Prop := recipePutsRow.holds Tryd.pinned (OpenSpec.ofChange recipePutsWrong)

/-- 'seedcornlaw37.RecipeReads': WHATEVER THE INPUT: true; the input reads as it did. -/
def recipeReadsSpec : ChangeSpec := { name := "recipeReads", fn := fun _ => fun
  | [d] => { results := [.lit (.bool true)], args := [d] }
  | _ => none }
def recipeReadsRow : OpenClaim := { program := "ytdkkomcokefkhaadoor", sum := "863f364868cdb53aaf030270dabb0489da0cc98b5b94dc37cb06042a037302b9", func := "seedcorn/seedcornlaw37.RecipeReads", spec := "recipeReads", unfollowed := true, recurses := true, named := ["seedcorn/digest.places"], apart := false, laid := [("seedcorn/digest.places", laid_seedcorn_digest_places)] }
def RecipeReadsSaid : Prop := recipeReadsRow.holds Tryd.pinned (OpenSpec.ofChange recipeReadsSpec)

/-- ITS FALSE NEIGHBOUR: 'it returns false'. Refute it at one input. -/
def recipeReadsWrong : ChangeSpec := { name := "recipeReads", fn := fun _ => fun
  | [d] => { results := [.lit (.bool false)], args := [d] }
  | _ => none }
def RecipeReadsWrongFalsely : Prop := recipeReadsRow.holds Tryd.pinned (OpenSpec.ofChange recipeReadsWrong)

/-- 'seedcornlaw37.RecipeApart': WHATEVER THE INPUT: true; the input reads as it did. -/
def recipeApartSpec : ChangeSpec := { name := "recipeApart", fn := fun _ => fun
  | [d1, d2] => { results := [.lit (.bool true)], args := [d1, d2] }
  | _ => none }
def recipeApartRow : OpenClaim := { program := "ytdkkomcokefkhaadoor", sum := "863f364868cdb53aaf030270dabb0489da0cc98b5b94dc37cb06042a037302b9", func := "seedcorn/seedcornlaw37.RecipeApart", spec := "recipeApart", unfollowed := true, recurses := true, named := ["seedcorn/digest.places"], apart := false, laid := [("seedcorn/digest.places", laid_seedcorn_digest_places)] }
def RecipeApartSaid : Prop := recipeApartRow.holds Tryd.pinned (OpenSpec.ofChange recipeApartSpec)

/-- ITS FALSE NEIGHBOUR: 'it returns false'. Refute it at one input. -/
def recipeApartWrong : ChangeSpec := { name := "recipeApart", fn := fun _ => fun
  | [d1, d2] => { results := [.lit (.bool false)], args := [d1, d2] }
  | _ => none }
def RecipeApartWrongFalsely : Prop := recipeApartRow.holds Tryd.pinned (OpenSpec.ofChange recipeApartWrong)

/-- 'seedcornlaw37.RecipePrefix': WHATEVER THE INPUT: true; the input reads as it did. -/
def recipePrefixSpec : ChangeSpec := { name := "recipePrefix", fn := fun _ => fun
  | [d1, d2] => { results := [.lit (.bool true)], args := [d1, d2] }
  | _ => none }
def recipePrefixRow : OpenClaim := { program := "ytdkkomcokefkhaadoor", sum := "863f364868cdb53aaf030270dabb0489da0cc98b5b94dc37cb06042a037302b9", func := "seedcorn/seedcornlaw37.RecipePrefix", spec := "recipePrefix", unfollowed := true, recurses := true, named := ["seedcorn/digest.places"], apart := false, laid := [("seedcorn/digest.places", laid_seedcorn_digest_places)] }
def RecipePrefixSaid : Prop := recipePrefixRow.holds Tryd.pinned (OpenSpec.ofChange recipePrefixSpec)

/-- ITS FALSE NEIGHBOUR: 'it returns false'. Refute it at one input. -/
def recipePrefixWrong : ChangeSpec := { name := "recipePrefix", fn := fun _ => fun
  | [d1, d2] => { results := [.lit (.bool false)], args := [d1, d2] }
  | _ => none }
def RecipePrefixWrongFalsely : Prop := recipePrefixRow.holds Tryd.pinned (OpenSpec.ofChange recipePrefixWrong)

/-- 'seedcornlaw37.RecipeRight': WHATEVER THE INPUT: true; the input reads as it did. -/
def recipeRightSpec : ChangeSpec := { name := "recipeRight", fn := fun _ => fun
  | [d1, d2] => { results := [.lit (.bool true)], args := [d1, d2] }
  | _ => none }
def recipeRightRow : OpenClaim := { program := "ytdkkomcokefkhaadoor", sum := "863f364868cdb53aaf030270dabb0489da0cc98b5b94dc37cb06042a037302b9", func := "seedcorn/seedcornlaw37.RecipeRight", spec := "recipeRight", unfollowed := true, recurses := true, named := ["seedcorn/digest.places"], apart := false, laid := [("seedcorn/digest.places", laid_seedcorn_digest_places)] }
def RecipeRightSaid : Prop := recipeRightRow.holds Tryd.pinned (OpenSpec.ofChange recipeRightSpec)

/-- ITS FALSE NEIGHBOUR: 'it returns false'. Refute it at one input. -/
def recipeRightWrong : ChangeSpec := { name := "recipeRight", fn := fun _ => fun
  | [d1, d2] => { results := [.lit (.bool false)], args := [d1, d2] }
  | _ => none }
def RecipeRightWrongFalsely : Prop := recipeRightRow.holds Tryd.pinned (OpenSpec.ofChange recipeRightWrong)

/-- 'seedcornlaw37.RecipeSwaps': WHATEVER THE INPUT: true; the input reads as it did. -/
def recipeSwapsSpec : ChangeSpec := { name := "recipeSwaps", fn := fun _ => fun
  | [d1, d2, d3] => { results := [.lit (.bool true)], args := [d1, d2, d3] }
  | _ => none }
def recipeSwapsRow : OpenClaim := { program := "ytdkkomcokefkhaadoor", sum := "863f364868cdb53aaf030270dabb0489da0cc98b5b94dc37cb06042a037302b9", func := "seedcorn/seedcornlaw37.RecipeSwaps", spec := "recipeSwaps", unfollowed := true, recurses := true, named := ["seedcorn/digest.places"], apart := false, laid := [("seedcorn/digest.places", laid_seedcorn_digest_places)] }
def RecipeSwapsSaid : Prop := recipeSwapsRow.holds Tryd.pinned (OpenSpec.ofChange recipeSwapsSpec)

/-- ITS FALSE NEIGHBOUR: 'it returns false'. Refute it at one input. -/
def recipeSwapsWrong : ChangeSpec := { name := "recipeSwaps", fn := fun _ => fun
  | [d1, d2, d3] => { results := [.lit (.bool false)], args := [d1, d2, d3] }
  | _ => none }
def RecipeSwapsWrongFalsely : Prop := recipeSwapsRow.holds Tryd.pinned (OpenSpec.ofChange recipeSwapsWrong)

/- THE SECOND FORM. 'bulk': how many values and letters a reading holds, each counted each time it is reached (what is shared counts as often as it is met; a slice's spare places count too). A statement '..UptoSaid' is the law's where the arguments, and the package variables that the reading takes, are together of bulk at most 1048576: NARROWER than '..Said'. Prove '..Said' where nothing that the law and all that it calls make is longer than what came in: it says more and counts as full. Else prove '..UptoSaid'. A law counts once. -/
mutual
def uptoBulk {H : Type} : DataW H → Nat
  | .lit (.string bytes) => bytes.length + 1
  | .lit _ => 1
  | .nil => 1
  | .ptr d => uptoBulk d + 1
  | .slice elems spare => uptoBulkAll elems + uptoBulkAll spare + 1
  | .agg parts => uptoBulkAll parts + 1
  | .iface _ d => uptoBulk d + 1
  | .map entries => uptoBulkEntries entries + 1
  | .held _ => 1
def uptoBulkAll {H : Type} : List (DataW H) → Nat
  | [] => 0
  | d :: r => uptoBulk d + uptoBulkAll r
def uptoBulkEntries {H : Type} : List (Lit × DataW H) → Nat
  | [] => 0
  | x :: r => uptoBulkEntry x + uptoBulkEntries r
def uptoBulkEntry {H : Type} : Lit × DataW H → Nat
  | (.string bytes, d) => bytes.length + uptoBulk d + 1
  | (_, d) => uptoBulk d + 1
 end
def uptoSmall : (H : Type) → List (DataW H) → Bool := fun _ ds => decide (uptoBulkAll ds ≤ 1048576)
def OpenSpec.upto (s : _root_.Go.ChangeSpec) : _root_.Go.OpenSpec := { _root_.Go.OpenSpec.ofChange s with cond := some uptoSmall }

/-- 'seedcornlaw37.RecipePuts', WHERE WHAT IT READS IS OF BULK AT MOST 1048576: true; the input reads as it did. -/
def recipePutsUptoRow : OpenClaim := { program := "ytdkkomcokefkhaadoor", sum := "863f364868cdb53aaf030270dabb0489da0cc98b5b94dc37cb06042a037302b9", func := "seedcorn/seedcornlaw37.RecipePuts", spec := "recipePuts", unfollowed := true, recurses := true, named := ["seedcorn/digest.places"], apart := false, laid := [("seedcorn/digest.places", laid_seedcorn_digest_places)], narrowed := true }
def RecipePutsUptoSaid : Prop := recipePutsUptoRow.holds Tryd.pinned (OpenSpec.upto recipePutsSpec)

/-- 'seedcornlaw37.RecipeReads', WHERE WHAT IT READS IS OF BULK AT MOST 1048576: true; the input reads as it did. -/
def recipeReadsUptoRow : OpenClaim := { program := "ytdkkomcokefkhaadoor", sum := "863f364868cdb53aaf030270dabb0489da0cc98b5b94dc37cb06042a037302b9", func := "seedcorn/seedcornlaw37.RecipeReads", spec := "recipeReads", unfollowed := true, recurses := true, named := ["seedcorn/digest.places"], apart := false, laid := [("seedcorn/digest.places", laid_seedcorn_digest_places)], narrowed := true }
def RecipeReadsUptoSaid : Prop := recipeReadsUptoRow.holds Tryd.pinned (OpenSpec.upto recipeReadsSpec)

/-- 'seedcornlaw37.RecipeApart', WHERE WHAT IT READS IS OF BULK AT MOST 1048576: true; the input reads as it did. -/
def recipeApartUptoRow : OpenClaim := { program := "ytdkkomcokefkhaadoor", sum := "863f364868cdb53aaf030270dabb0489da0cc98b5b94dc37cb06042a037302b9", func := "seedcorn/seedcornlaw37.RecipeApart", spec := "recipeApart", unfollowed := true, recurses := true, named := ["seedcorn/digest.places"], apart := false, laid := [("seedcorn/digest.places", laid_seedcorn_digest_places)], narrowed := true }
def RecipeApartUptoSaid : Prop := recipeApartUptoRow.holds Tryd.pinned (OpenSpec.upto recipeApartSpec)

/-- 'seedcornlaw37.RecipePrefix', WHERE WHAT IT READS IS OF BULK AT MOST 1048576: true; the input reads as it did. -/
def recipePrefixUptoRow : OpenClaim := { program := "ytdkkomcokefkhaadoor", sum := "863f364868cdb53aaf030270dabb0489da0cc98b5b94dc37cb06042a037302b9", func := "seedcorn/seedcornlaw37.RecipePrefix", spec := "recipePrefix", unfollowed := true, recurses := true, named := ["seedcorn/digest.places"], apart := false, laid := [("seedcorn/digest.places", laid_seedcorn_digest_places)], narrowed := true }
def RecipePrefixUptoSaid : Prop := recipePrefixUptoRow.holds Tryd.pinned (OpenSpec.upto recipePrefixSpec)

/-- 'seedcornlaw37.RecipeRight', WHERE WHAT IT READS IS OF BULK AT MOST 1048576: true; the input reads as it did. -/
def recipeRightUptoRow : OpenClaim := { program := "ytdkkomcokefkhaadoor", sum := "863f364868cdb53aaf030270dabb0489da0cc98b5b94dc37cb06042a037302b9", func := "seedcorn/seedcornlaw37.RecipeRight", spec := "recipeRight", unfollowed := true, recurses := true, named := ["seedcorn/digest.places"], apart := false, laid := [("seedcorn/digest.places", laid_seedcorn_digest_places)], narrowed := true }
def RecipeRightUptoSaid : Prop := recipeRightUptoRow.holds Tryd.pinned (OpenSpec.upto recipeRightSpec)

/-- 'seedcornlaw37.RecipeSwaps', WHERE WHAT IT READS IS OF BULK AT MOST 1048576: true; the input reads as it did. -/
def recipeSwapsUptoRow : OpenClaim := { program := "ytdkkomcokefkhaadoor", sum := "863f364868cdb53aaf030270dabb0489da0cc98b5b94dc37cb06042a037302b9", func := "seedcorn/seedcornlaw37.RecipeSwaps", spec := "recipeSwaps", unfollowed := true, recurses := true, named := ["seedcorn/digest.places"], apart := false, laid := [("seedcorn/digest.places", laid_seedcorn_digest_places)], narrowed := true }
def RecipeSwapsUptoSaid : Prop := recipeSwapsUptoRow.holds Tryd.pinned (OpenSpec.upto recipeSwapsSpec)

end Rows
end Go.Proofs.YtdkkomcokefkhaaDoor
