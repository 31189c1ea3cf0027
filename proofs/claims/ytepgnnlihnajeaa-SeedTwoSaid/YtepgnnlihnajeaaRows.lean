/-
  No cell of these rows narrows 'for every input' (looked for: loops, veiled, ifaces, maps, wideKeys, modest, calm, conditions, laid).
  DERIVED. THE GIVEN ROWS OF THIS SEAT. 5 by the template 'for every input the law returns true; each argument reads behind the call as it read before'; 0 by the template 'total and deterministic' (their statements: YtepgnnlihnajeaaTotals.lean).
  GIVEN WITH THE SEED: the statements are not yours to turn. If you find one false, say at which input.
  Laid BY PROGRAM, IN A SANDBOX (cutbox-rows.mjs): the forced cells as the released guide's own fill.sh prints them over the translation 6486fd2a3514eedf… (all of the seat's roots in one cut). By AI agents, Wed Nov 11 2026. No macro, syntax, notation, axiom, sorry.
-/
import Derived.Test.YtepgnnlihnajeaaChecked
import GoSem.Claim
import GoSem.ClaimJoined
import GoSem.ClaimMapViews
import Derived.JoinedTies
import Derived.KernelRfl
namespace Go.Proofs.Ytepgnnlihnajeaa
/- THE CELL 'sum', in the pinned program and in every row, IS THE sha256 OF THE DUMP (.gsa) THAT YtepgnnlihnajeaaProg.lean LOADS. Nothing in Lean hashes anything: it is a label: what it is worth is what the hold of that sum in a sandbox is worth. -/
noncomputable def Try.pinned : Pinned := { name := "ytepgnnlihnajeaa", sum := "6486fd2a3514eedff4dfdc54c1a36b580ac8556e5307dc4de436fec40d5b6306", checked := Try.checked }
namespace Rows
def none {H : Type} : Left H := { results := [], args := [] }

/-- 'seedcornlaw50.SeedLoads': WHATEVER THE INPUT: true; the input reads as it did. -/
def seedLoadsSpec : ChangeSpec := { name := "seedLoads", fn := fun _ => fun
  | [d] => { results := [.lit (.bool true)], args := [d] }
  | _ => none }
def seedLoadsRow : OpenClaim := { program := "ytepgnnlihnajeaa", sum := "6486fd2a3514eedff4dfdc54c1a36b580ac8556e5307dc4de436fec40d5b6306", func := "seedcorn/seedcornlaw50.SeedLoads", spec := "seedLoads", apart := false }
def SeedLoadsSaid : Prop := seedLoadsRow.holds Try.pinned (OpenSpec.ofChange seedLoadsSpec)

/-- ITS FALSE NEIGHBOUR: 'it returns false'. Refute it at one input. -/
def seedLoadsWrong : ChangeSpec := { name := "seedLoads", fn := fun _ => fun
  | [d] => { results := [.lit (.bool false)], args := [d] }
  | _ => none }
def SeedLoadsWrongFalsely : Prop := seedLoadsRow.holds Try.pinned (OpenSpec.ofChange seedLoadsWrong)

/-- 'seedcornlaw50.SeedSmall': WHATEVER THE INPUT: true; the input reads as it did. -/
def seedSmallSpec : ChangeSpec := { name := "seedSmall", fn := fun _ => fun
  | [] => { results := [.lit (.bool true)], args := [] }
  | _ => none }
def seedSmallRow : OpenClaim := { program := "ytepgnnlihnajeaa", sum := "6486fd2a3514eedff4dfdc54c1a36b580ac8556e5307dc4de436fec40d5b6306", func := "seedcorn/seedcornlaw50.SeedSmall", spec := "seedSmall", apart := false }
def SeedSmallSaid : Prop := seedSmallRow.holds Try.pinned (OpenSpec.ofChange seedSmallSpec)

/-- ITS FALSE NEIGHBOUR: 'it returns false'. Refute it at one input. -/
def seedSmallWrong : ChangeSpec := { name := "seedSmall", fn := fun _ => fun
  | [] => { results := [.lit (.bool false)], args := [] }
  | _ => none }
def SeedSmallWrongFalsely : Prop := seedSmallRow.holds Try.pinned (OpenSpec.ofChange seedSmallWrong)

/-- 'seedcornlaw50.SeedImages': WHATEVER THE INPUT: true; the input reads as it did. -/
def seedImagesSpec : ChangeSpec := { name := "seedImages", fn := fun _ => fun
  | [d] => { results := [.lit (.bool true)], args := [d] }
  | _ => none }
def seedImagesRow : OpenClaim := { program := "ytepgnnlihnajeaa", sum := "6486fd2a3514eedff4dfdc54c1a36b580ac8556e5307dc4de436fec40d5b6306", func := "seedcorn/seedcornlaw50.SeedImages", spec := "seedImages", apart := false }
def SeedImagesSaid : Prop := seedImagesRow.holds Try.pinned (OpenSpec.ofChange seedImagesSpec)

/-- ITS FALSE NEIGHBOUR: 'it returns false'. Refute it at one input. -/
def seedImagesWrong : ChangeSpec := { name := "seedImages", fn := fun _ => fun
  | [d] => { results := [.lit (.bool false)], args := [d] }
  | _ => none }
def SeedImagesWrongFalsely : Prop := seedImagesRow.holds Try.pinned (OpenSpec.ofChange seedImagesWrong)

/-- 'seedcornlaw50.SeedNotes': WHATEVER THE INPUT: true; the input reads as it did. -/
def seedNotesSpec : ChangeSpec := { name := "seedNotes", fn := fun _ => fun
  | [d1, d2] => { results := [.lit (.bool true)], args := [d1, d2] }
  | _ => none }
def seedNotesRow : OpenClaim := { program := "ytepgnnlihnajeaa", sum := "6486fd2a3514eedff4dfdc54c1a36b580ac8556e5307dc4de436fec40d5b6306", func := "seedcorn/seedcornlaw50.SeedNotes", spec := "seedNotes", apart := false }
def SeedNotesSaid : Prop := seedNotesRow.holds Try.pinned (OpenSpec.ofChange seedNotesSpec)

/-- ITS FALSE NEIGHBOUR: 'it returns false'. Refute it at one input. -/
def seedNotesWrong : ChangeSpec := { name := "seedNotes", fn := fun _ => fun
  | [d1, d2] => { results := [.lit (.bool false)], args := [d1, d2] }
  | _ => none }
def SeedNotesWrongFalsely : Prop := seedNotesRow.holds Try.pinned (OpenSpec.ofChange seedNotesWrong)

/-- 'seedcornlaw50.SeedTwo': WHATEVER THE INPUT: true; the input reads as it did. -/
def seedTwoSpec : ChangeSpec := { name := "seedTwo", fn := fun _ => fun
  | [d1, d2] => { results := [.lit (.bool true)], args := [d1, d2] }
  | _ => none }
def seedTwoRow : OpenClaim := { program := "ytepgnnlihnajeaa", sum := "6486fd2a3514eedff4dfdc54c1a36b580ac8556e5307dc4de436fec40d5b6306", func := "seedcorn/seedcornlaw50.SeedTwo", spec := "seedTwo", apart := false }
def SeedTwoSaid : Prop := seedTwoRow.holds Try.pinned (OpenSpec.ofChange seedTwoSpec)

/-- ITS FALSE NEIGHBOUR: 'it returns false'. Refute it at one input. -/
def seedTwoWrong : ChangeSpec := { name := "seedTwo", fn := fun _ => fun
  | [d1, d2] => { results := [.lit (.bool false)], args := [d1, d2] }
  | _ => none }
def SeedTwoWrongFalsely : Prop := seedTwoRow.holds Try.pinned (OpenSpec.ofChange seedTwoWrong)

/- THE SECOND FORM. 'bulk': how many values and letters a reading holds, each counted each time it is reached (what is shared counts as often as it is met; a slice's spare places count too). A statement '..UptoSaid' is the law's where the arguments, and the package variables that the reading takes, are together of bulk at most 1048576: NARROWER than '..Said'. Prove '..Said' where nothing that the law and all that it calls make is longer than what came in: it says more and counts as full. Else prove '..UptoSaid'. A law counts once. -/
mutual
def uptoBulk {H : Type} : DataW H → Nat
  | .lit (.string bytes) => bytes.length + 1
  | .lit _ => 1
  | .nil => 1
  | .ptr d => uptoBulk d + 1
  | .slice elems spare => uptoBulkAll elems + uptoBulkAll spare + 1
  | .agg parts => uptoBulkAll parts + 1
  | .iface _ d => uptoBulk d + 1
  | .map entries => uptoBulkEntries entries + 1
  | .held _ => 1
def uptoBulkAll {H : Type} : List (DataW H) → Nat
  | [] => 0
  | d :: r => uptoBulk d + uptoBulkAll r
def uptoBulkEntries {H : Type} : List (Lit × DataW H) → Nat
  | [] => 0
  | x :: r => uptoBulkEntry x + uptoBulkEntries r
def uptoBulkEntry {H : Type} : Lit × DataW H → Nat
  | (.string bytes, d) => bytes.length + uptoBulk d + 1
  | (_, d) => uptoBulk d + 1
 end
def uptoSmall : (H : Type) → List (DataW H) → Bool := fun _ ds => decide (uptoBulkAll ds ≤ 1048576)
def OpenSpec.upto (s : _root_.Go.ChangeSpec) : _root_.Go.OpenSpec := { _root_.Go.OpenSpec.ofChange s with cond := some uptoSmall }

/-- 'seedcornlaw50.SeedLoads', WHERE WHAT IT READS IS OF BULK AT MOST 1048576: true; the input reads as it did. -/
def seedLoadsUptoRow : OpenClaim := { program := "ytepgnnlihnajeaa", sum := "6486fd2a3514eedff4dfdc54c1a36b580ac8556e5307dc4de436fec40d5b6306", func := "seedcorn/seedcornlaw50.SeedLoads", spec := "seedLoads", apart := false, narrowed := true }
def SeedLoadsUptoSaid : Prop := seedLoadsUptoRow.holds Try.pinned (OpenSpec.upto seedLoadsSpec)

/-- 'seedcornlaw50.SeedSmall', WHERE WHAT IT READS IS OF BULK AT MOST 1048576: true; the input reads as it did. -/
def seedSmallUptoRow : OpenClaim := { program := "ytepgnnlihnajeaa", sum := "6486fd2a3514eedff4dfdc54c1a36b580ac8556e5307dc4de436fec40d5b6306", func := "seedcorn/seedcornlaw50.SeedSmall", spec := "seedSmall", apart := false, narrowed := true }
def SeedSmallUptoSaid : Prop := seedSmallUptoRow.holds Try.pinned (OpenSpec.upto seedSmallSpec)

/-- 'seedcornlaw50.SeedImages', WHERE WHAT IT READS IS OF BULK AT MOST 1048576: true; the input reads as it did. -/
def seedImagesUptoRow : OpenClaim := { program := "ytepgnnlihnajeaa", sum := "6486fd2a3514eedff4dfdc54c1a36b580ac8556e5307dc4de436fec40d5b6306", func := "seedcorn/seedcornlaw50.SeedImages", spec := "seedImages", apart := false, narrowed := true }
def SeedImagesUptoSaid : Prop := seedImagesUptoRow.holds Try.pinned (OpenSpec.upto seedImagesSpec)

/-- 'seedcornlaw50.SeedNotes', WHERE WHAT IT READS IS OF BULK AT MOST 1048576: true; the input reads as it did. -/
def seedNotesUptoRow : OpenClaim := { program := "ytepgnnlihnajeaa", sum := "6486fd2a3514eedff4dfdc54c1a36b580ac8556e5307dc4de436fec40d5b6306", func := "seedcorn/seedcornlaw50.SeedNotes", spec := "seedNotes", apart := false, narrowed := true }
def SeedNotesUptoSaid : Prop := seedNotesUptoRow.holds Try.pinned (OpenSpec.upto seedNotesSpec)

/-- 'seedcornlaw50.SeedTwo', WHERE WHAT IT READS IS OF BULK AT MOST 1048576: true; the input reads as it did. -/
def seedTwoUptoRow : OpenClaim := { program := "ytepgnnlihnajeaa", sum := "6486fd2a3514eedff4dfdc54c1a36b580ac8556e5307dc4de436fec40d5b6306", func := "seedcorn/seedcornlaw50.SeedTwo", spec := "seedTwo", apart := false, narrowed := true }
def SeedTwoUptoSaid : Prop := seedTwoUptoRow.holds Try.pinned (OpenSpec.upto seedTwoSpec)

end Rows
end Go.Proofs.Ytepgnnlihnajeaa
