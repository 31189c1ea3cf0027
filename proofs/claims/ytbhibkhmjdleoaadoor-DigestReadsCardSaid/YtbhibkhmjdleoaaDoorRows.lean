/-
  NARROWER THAN 'FOR EVERY INPUT', by the rows' own cells (each row's printed sentence says how): DigestMixes: laid · DigestBack: laid · DigestTexts: laid · DigestReads: laid · DigestPairs: laid · DigestChain: laid · DigestOf: laid · DigestSponge: laid.
  DERIVED. THE GIVEN ROWS OF THIS SEAT. 8 by the template 'for every input the law returns true; each argument reads behind the call as it read before'; 0 by the template 'total and deterministic' (their statements: YtbhibkhmjdleoaaDoorTotals.lean).
  GIVEN WITH THE SEED: the statements are not yours to turn. If you find one false, say at which input.
  Laid BY PROGRAM, IN A SANDBOX (cutbox-rows.mjs): the forced cells as the released guide's own fill.sh prints them over the translation 76a95a99b73ca275… (all of the seat's roots in one cut). By AI agents, Wed Nov 11 2026. No macro, syntax, notation, axiom, sorry.
-/
import Derived.Test.YtbhibkhmjdleoaaDoorChecked
import GoSem.Claim
import GoSem.ClaimJoined
import GoSem.ClaimMapViews
import Derived.JoinedTies
import Derived.KernelRfl
namespace Go.Proofs.YtbhibkhmjdleoaaDoor
/- THE CELL 'sum', in the pinned program and in every row, IS THE sha256 OF THE DUMP (.gsa) THAT YtbhibkhmjdleoaaDoorProg.lean LOADS. Nothing in Lean hashes anything: it is a label: what it is worth is what the hold of that sum in a sandbox is worth. -/
noncomputable def Tryd.pinned : Pinned := { name := "ytbhibkhmjdleoaadoor", sum := "76a95a99b73ca2751100c7cab5e5bb40a02daaab236f24812ea84d210729b838", checked := Tryd.checked }
namespace Rows
def none {H : Type} : Left H := { results := [], args := [] }

/- WHAT THE LISTED PACKAGE-LEVEL VARIABLES READ AS WHEN THE CALL BEGINS. Each datum BY PROGRAM (the guide's laid-datum.mjs) off the statement by which the dump's own 'gosem.cut.vars' lays the variable. In a bare row this is a premise. The card (YtbhibkhmjdleoaaDoorCards.lean) ties it to the program's text. -/
def laid_seedcorn_hex_small {H : Type} : DataW H := .agg [.lit (.int .u8 48), .lit (.int .u8 49), .lit (.int .u8 50), .lit (.int .u8 51), .lit (.int .u8 52), .lit (.int .u8 53), .lit (.int .u8 54), .lit (.int .u8 55), .lit (.int .u8 56), .lit (.int .u8 57), .lit (.int .u8 97), .lit (.int .u8 98), .lit (.int .u8 99), .lit (.int .u8 100), .lit (.int .u8 101), .lit (.int .u8 102)]
def laid_seedcorn_digest_places {H : Type} : DataW H := .agg [.lit (.int .i64 7), .lit (.int .i64 9), .lit (.int .i64 13), .lit (.int .i64 18)]

/-- 'seedcornlaw03.DigestMixes': WHATEVER THE INPUT: true; the input reads as it did. -/
def digestMixesSpec : ChangeSpec := { name := "digestMixes", fn := fun _ => fun
  | [d] => { results := [.lit (.bool true)], args := [d] }
  | _ => none }
def digestMixesRow : OpenClaim := { program := "ytbhibkhmjdleoaadoor", sum := "76a95a99b73ca2751100c7cab5e5bb40a02daaab236f24812ea84d210729b838", func := "seedcorn/seedcornlaw03.DigestMixes", spec := "digestMixes", named := ["seedcorn/hex.small", "seedcorn/digest.places"], apart := false, laid := [("seedcorn/hex.small", laid_seedcorn_hex_small), ("seedcorn/digest.places", laid_seedcorn_digest_places)] }
def DigestMixesSaid : Prop := digestMixesRow.holds Tryd.pinned (OpenSpec.ofChange digestMixesSpec)

/-- ITS FALSE NEIGHBOUR: 'it returns false'. Refute it at one input. -/
def digestMixesWrong : ChangeSpec := { name := "digestMixes", fn := fun _ => fun
  | [d] => { results := [.lit (.bool false)], args := [d] }
  | _ => none }
def DigestMixesWrongFalsely : Prop := digestMixesRow.holds Tryd.pinned (OpenSpec.ofChange digestMixesWrong)

/-- 'seedcornlaw03.DigestBack': WHATEVER THE INPUT: true; the input reads as it did. -/
def digestBackSpec : ChangeSpec := { name := "digestBack", fn := fun _ => fun
  | [d1, d2] => { results := [.lit (.bool true)], args := [d1, d2] }
  | _ => none }
def digestBackRow : OpenClaim := { program := "ytbhibkhmjdleoaadoor", sum := "76a95a99b73ca2751100c7cab5e5bb40a02daaab236f24812ea84d210729b838", func := "seedcorn/seedcornlaw03.DigestBack", spec := "digestBack", named := ["seedcorn/hex.small", "seedcorn/digest.places"], apart := false, laid := [("seedcorn/hex.small", laid_seedcorn_hex_small), ("seedcorn/digest.places", laid_seedcorn_digest_places)] }
def DigestBackSaid : Prop := digestBackRow.holds Tryd.pinned (OpenSpec.ofChange digestBackSpec)

/-- ITS FALSE NEIGHBOUR: 'it returns false'. Refute it at one input. -/
def digestBackWrong : ChangeSpec := { name := "digestBack", fn := fun _ => fun
  | [d1, d2] => { results := [.lit (.bool false)], args := [d1, d2] }
  | _ => none }
def DigestBackWrongFalsely : Prop := digestBackRow.holds Tryd.pinned (OpenSpec.ofChange digestBackWrong)

/-- 'seedcornlaw03.DigestTexts': WHATEVER THE INPUT: true; the input reads as it did. -/
def digestTextsSpec : ChangeSpec := { name := "digestTexts", fn := fun _ => fun
  | [d] => { results := [.lit (.bool true)], args := [d] }
  | _ => none }
def digestTextsRow : OpenClaim := { program := "ytbhibkhmjdleoaadoor", sum := "76a95a99b73ca2751100c7cab5e5bb40a02daaab236f24812ea84d210729b838", func := "seedcorn/seedcornlaw03.DigestTexts", spec := "digestTexts", named := ["seedcorn/hex.small", "seedcorn/digest.places"], apart := false, laid := [("seedcorn/hex.small", laid_seedcorn_hex_small), ("seedcorn/digest.places", laid_seedcorn_digest_places)] }
def DigestTextsSaid : Prop := digestTextsRow.holds Tryd.pinned (OpenSpec.ofChange digestTextsSpec)

/-- ITS FALSE NEIGHBOUR: 'it returns false'. Refute it at one input. -/
def digestTextsWrong : ChangeSpec := { name := "digestTexts", fn := fun _ => fun
  | [d] => { results := [.lit (.bool false)], args := [d] }
  | _ => none }
def DigestTextsWrongFalsely : Prop := digestTextsRow.holds Tryd.pinned (OpenSpec.ofChange digestTextsWrong)

/-- 'seedcornlaw03.DigestReads': WHATEVER THE INPUT: true; the input reads as it did. -/
def digestReadsSpec : ChangeSpec := { name := "digestReads", fn := fun _ => fun
  | [d] => { results := [.lit (.bool true)], args := [d] }
  | _ => none }
def digestReadsRow : OpenClaim := { program := "ytbhibkhmjdleoaadoor", sum := "76a95a99b73ca2751100c7cab5e5bb40a02daaab236f24812ea84d210729b838", func := "seedcorn/seedcornlaw03.DigestReads", spec := "digestReads", named := ["seedcorn/hex.small", "seedcorn/digest.places"], apart := false, laid := [("seedcorn/hex.small", laid_seedcorn_hex_small), ("seedcorn/digest.places", laid_seedcorn_digest_places)] }
def DigestReadsSaid : Prop := digestReadsRow.holds Tryd.pinned (OpenSpec.ofChange digestReadsSpec)

/-- ITS FALSE NEIGHBOUR: 'it returns false'. Refute it at one input. -/
def digestReadsWrong : ChangeSpec := { name := "digestReads", fn := fun _ => fun
  | [d] => { results := [.lit (.bool false)], args := [d] }
  | _ => none }
def DigestReadsWrongFalsely : Prop := digestReadsRow.holds Tryd.pinned (OpenSpec.ofChange digestReadsWrong)

/-- 'seedcornlaw03.DigestPairs': WHATEVER THE INPUT: true; the input reads as it did. -/
def digestPairsSpec : ChangeSpec := { name := "digestPairs", fn := fun _ => fun
  | [d1, d2] => { results := [.lit (.bool true)], args := [d1, d2] }
  | _ => none }
def digestPairsRow : OpenClaim := { program := "ytbhibkhmjdleoaadoor", sum := "76a95a99b73ca2751100c7cab5e5bb40a02daaab236f24812ea84d210729b838", func := "seedcorn/seedcornlaw03.DigestPairs", spec := "digestPairs", named := ["seedcorn/hex.small", "seedcorn/digest.places"], apart := false, laid := [("seedcorn/hex.small", laid_seedcorn_hex_small), ("seedcorn/digest.places", laid_seedcorn_digest_places)] }
def DigestPairsSaid : Prop := digestPairsRow.holds Tryd.pinned (OpenSpec.ofChange digestPairsSpec)

/-- ITS FALSE NEIGHBOUR: 'it returns false'. Refute it at one input. -/
def digestPairsWrong : ChangeSpec := { name := "digestPairs", fn := fun _ => fun
  | [d1, d2] => { results := [.lit (.bool false)], args := [d1, d2] }
  | _ => none }
def DigestPairsWrongFalsely : Prop := digestPairsRow.holds Tryd.pinned (OpenSpec.ofChange digestPairsWrong)

/-- 'seedcornlaw03.DigestChain': WHATEVER THE INPUT: true; the input reads as it did. -/
def digestChainSpec : ChangeSpec := { name := "digestChain", fn := fun _ => fun
  | [d1, d2] => { results := [.lit (.bool true)], args := [d1, d2] }
  | _ => none }
def digestChainRow : OpenClaim := { program := "ytbhibkhmjdleoaadoor", sum := "76a95a99b73ca2751100c7cab5e5bb40a02daaab236f24812ea84d210729b838", func := "seedcorn/seedcornlaw03.DigestChain", spec := "digestChain", named := ["seedcorn/digest.places", "seedcorn/hex.small"], apart := false, laid := [("seedcorn/hex.small", laid_seedcorn_hex_small), ("seedcorn/digest.places", laid_seedcorn_digest_places)] }
def DigestChainSaid : Prop := digestChainRow.holds Tryd.pinned (OpenSpec.ofChange digestChainSpec)

/-- ITS FALSE NEIGHBOUR: 'it returns false'. Refute it at one input. -/
def digestChainWrong : ChangeSpec := { name := "digestChain", fn := fun _ => fun
  | [d1, d2] => { results := [.lit (.bool false)], args := [d1, d2] }
  | _ => none }
def DigestChainWrongFalsely : Prop := digestChainRow.holds Tryd.pinned (OpenSpec.ofChange digestChainWrong)

/-- 'seedcornlaw03.DigestOf': WHATEVER THE INPUT: true; the input reads as it did. -/
def digestOfSpec : ChangeSpec := { name := "digestOf", fn := fun _ => fun
  | [d] => { results := [.lit (.bool true)], args := [d] }
  | _ => none }
def digestOfRow : OpenClaim := { program := "ytbhibkhmjdleoaadoor", sum := "76a95a99b73ca2751100c7cab5e5bb40a02daaab236f24812ea84d210729b838", func := "seedcorn/seedcornlaw03.DigestOf", spec := "digestOf", named := ["seedcorn/hex.small", "seedcorn/digest.places"], apart := false, laid := [("seedcorn/hex.small", laid_seedcorn_hex_small), ("seedcorn/digest.places", laid_seedcorn_digest_places)] }
def DigestOfSaid : Prop := digestOfRow.holds Tryd.pinned (OpenSpec.ofChange digestOfSpec)

/-- ITS FALSE NEIGHBOUR: 'it returns false'. Refute it at one input. -/
def digestOfWrong : ChangeSpec := { name := "digestOf", fn := fun _ => fun
  | [d] => { results := [.lit (.bool false)], args := [d] }
  | _ => none }
def DigestOfWrongFalsely : Prop := digestOfRow.holds Tryd.pinned (OpenSpec.ofChange digestOfWrong)

/-- 'seedcornlaw03.DigestSponge': WHATEVER THE INPUT: true; the input reads as it did. -/
def digestSpongeSpec : ChangeSpec := { name := "digestSponge", fn := fun _ => fun
  | [d] => { results := [.lit (.bool true)], args := [d] }
  | _ => none }
def digestSpongeRow : OpenClaim := { program := "ytbhibkhmjdleoaadoor", sum := "76a95a99b73ca2751100c7cab5e5bb40a02daaab236f24812ea84d210729b838", func := "seedcorn/seedcornlaw03.DigestSponge", spec := "digestSponge", named := ["seedcorn/hex.small", "seedcorn/digest.places"], apart := false, laid := [("seedcorn/hex.small", laid_seedcorn_hex_small), ("seedcorn/digest.places", laid_seedcorn_digest_places)] }
def DigestSpongeSaid : Prop := digestSpongeRow.holds Tryd.pinned (OpenSpec.ofChange digestSpongeSpec)

/-- ITS FALSE NEIGHBOUR: 'it returns false'. Refute it at one input. -/
def digestSpongeWrong : ChangeSpec := { name := "digestSponge", fn := fun _ => fun
  | [d] => { results := [.lit (.bool false)], args := [d] }
  | _ => none }
def DigestSpongeWrongFalsely : Prop := digestSpongeRow.holds Tryd.pinned (OpenSpec.ofChange digestSpongeWrong)

/- THE SECOND FORM. 'bulk': how many values and letters a reading holds, each counted each time it is reached (what is shared counts as often as it is met; a slice's spare places count too). A statement '..UptoSaid' is the law's where the arguments, and the package variables that the reading takes, are together of bulk at most 1048576: NARROWER than '..Said'. Prove '..Said' where nothing that the law and all that it calls make is longer than what came in: it says more and counts as full. Else prove '..UptoSaid'. A law counts once. -/
mutual
def uptoBulk {H : Type} : DataW H → Nat
  | .lit (.string bytes) => bytes.length + 1
  | .lit _ => 1
  | .nil => 1
  | .ptr d => uptoBulk d + 1
  | .slice elems spare => uptoBulkAll elems + uptoBulkAll spare + 1
  | .agg parts => uptoBulkAll parts + 1
  | .iface _ d => uptoBulk d + 1
  | .map entries => uptoBulkEntries entries + 1
  | .held _ => 1
def uptoBulkAll {H : Type} : List (DataW H) → Nat
  | [] => 0
  | d :: r => uptoBulk d + uptoBulkAll r
def uptoBulkEntries {H : Type} : List (Lit × DataW H) → Nat
  | [] => 0
  | x :: r => uptoBulkEntry x + uptoBulkEntries r
def uptoBulkEntry {H : Type} : Lit × DataW H → Nat
  | (.string bytes, d) => bytes.length + uptoBulk d + 1
  | (_, d) => uptoBulk d + 1
 end
def uptoSmall : (H : Type) → List (DataW H) → Bool := fun _ ds => decide (uptoBulkAll ds ≤ 1048576)
def OpenSpec.upto (s : _root_.Go.ChangeSpec) : _root_.Go.OpenSpec := { _root_.Go.OpenSpec.ofChange s with cond := some uptoSmall }

/-- 'seedcornlaw03.DigestMixes', WHERE WHAT IT READS IS OF BULK AT MOST 1048576: true; the input reads as it did. -/
def digestMixesUptoRow : OpenClaim := { program := "ytbhibkhmjdleoaadoor", sum := "76a95a99b73ca2751100c7cab5e5bb40a02daaab236f24812ea84d210729b838", func := "seedcorn/seedcornlaw03.DigestMixes", spec := "digestMixes", named := ["seedcorn/hex.small", "seedcorn/digest.places"], apart := false, laid := [("seedcorn/hex.small", laid_seedcorn_hex_small), ("seedcorn/digest.places", laid_seedcorn_digest_places)], narrowed := true }
def DigestMixesUptoSaid : Prop := digestMixesUptoRow.holds Tryd.pinned (OpenSpec.upto digestMixesSpec)

/-- 'seedcornlaw03.DigestBack', WHERE WHAT IT READS IS OF BULK AT MOST 1048576: true; the input reads as it did. -/
def digestBackUptoRow : OpenClaim := { program := "ytbhibkhmjdleoaadoor", sum := "76a95a99b73ca2751100c7cab5e5bb40a02daaab236f24812ea84d210729b838", func := "seedcorn/seedcornlaw03.DigestBack", spec := "digestBack", named := ["seedcorn/hex.small", "seedcorn/digest.places"], apart := false, laid := [("seedcorn/hex.small", laid_seedcorn_hex_small), ("seedcorn/digest.places", laid_seedcorn_digest_places)], narrowed := true }
def DigestBackUptoSaid : Prop := digestBackUptoRow.holds Tryd.pinned (OpenSpec.upto digestBackSpec)

/-- 'seedcornlaw03.DigestTexts', WHERE WHAT IT READS IS OF BULK AT MOST 1048576: true; the input reads as it did. -/
def digestTextsUptoRow : OpenClaim := { program := "ytbhibkhmjdleoaadoor", sum := "76a95a99b73ca2751100c7cab5e5bb40a02daaab236f24812ea84d210729b838", func := "seedcorn/seedcornlaw03.DigestTexts", spec := "digestTexts", named := ["seedcorn/hex.small", "seedcorn/digest.places"], apart := false, laid := [("seedcorn/hex.small", laid_seedcorn_hex_small), ("seedcorn/digest.places", laid_seedcorn_digest_places)], narrowed := true }
def DigestTextsUptoSaid : Prop := digestTextsUptoRow.holds Tryd.pinned (OpenSpec.upto digestTextsSpec)

/-- 'seedcornlaw03.DigestReads', WHERE WHAT IT READS IS OF BULK AT MOST 1048576: true; the input reads as it did. -/
def digestReadsUptoRow : OpenClaim := { program := "ytbhibkhmjdleoaadoor", sum := "76a95a99b73ca2751100c7cab5e5bb40a02daaab236f24812ea84d210729b838", func := "seedcorn/seedcornlaw03.DigestReads", spec := "digestReads", named := ["seedcorn/hex.small", "seedcorn/digest.places"], apart := false, laid := [("seedcorn/hex.small", laid_seedcorn_hex_small), ("seedcorn/digest.places", laid_seedcorn_digest_places)], narrowed := true }
def DigestReadsUptoSaid : Prop := digestReadsUptoRow.holds Tryd.pinned (OpenSpec.upto digestReadsSpec)

/-- 'seedcornlaw03.DigestPairs', WHERE WHAT IT READS IS OF BULK AT MOST 1048576: true; the input reads as it did. -/
def digestPairsUptoRow : OpenClaim := { program := "ytbhibkhmjdleoaadoor", sum := "76a95a99b73ca2751100c7cab5e5bb40a02daaab236f24812ea84d210729b838", func := "seedcorn/seedcornlaw03.DigestPairs", spec := "digestPairs", named := ["seedcorn/hex.small", "seedcorn/digest.places"], apart := false, laid := [("seedcorn/hex.small", laid_seedcorn_hex_small), ("seedcorn/digest.places", laid_seedcorn_digest_places)], narrowed := true }
def DigestPairsUptoSaid : Prop := digestPairsUptoRow.holds Tryd.pinned (OpenSpec.upto digestPairsSpec)

/-- 'seedcornlaw03.DigestChain', WHERE WHAT IT READS IS OF BULK AT MOST 1048576: true; the input reads as it did. -/
def digestChainUptoRow : OpenClaim := { program := "ytbhibkhmjdleoaadoor", sum := "76a95a99b73ca2751100c7cab5e5bb40a02daaab236f24812ea84d210729b838", func := "seedcorn/seedcornlaw03.DigestChain", spec := "digestChain", named := ["seedcorn/digest.places", "seedcorn/hex.small"], apart := false, laid := [("seedcorn/hex.small", laid_seedcorn_hex_small), ("seedcorn/digest.places", laid_seedcorn_digest_places)], narrowed := true }
def DigestChainUptoSaid : Prop := digestChainUptoRow.holds Tryd.pinned (OpenSpec.upto digestChainSpec)

/-- 'seedcornlaw03.DigestOf', WHERE WHAT IT READS IS OF BULK AT MOST 1048576: true; the input reads as it did. -/
def digestOfUptoRow : OpenClaim := { program := "ytbhibkhmjdleoaadoor", sum := "76a95a99b73ca2751100c7cab5e5bb40a02daaab236f24812ea84d210729b838", func := "seedcorn/seedcornlaw03.DigestOf", spec := "digestOf", named := ["seedcorn/hex.small", "seedcorn/digest.places"], apart := false, laid := [("seedcorn/hex.small", laid_seedcorn_hex_small), ("seedcorn/digest.places", laid_seedcorn_digest_places)], narrowed := true }
def DigestOfUptoSaid : Prop := digestOfUptoRow.holds Tryd.pinned (OpenSpec.upto digestOfSpec)

/-- 'seedcornlaw03.DigestSponge', WHERE WHAT IT READS IS OF BULK AT MOST 1048576: true; the input reads as it did. -/
def digestSpongeUptoRow : OpenClaim := { program := "ytbhibkhmjdleoaadoor", sum := "76a95a99b73ca2751100c7cab5e5bb40a02daaab236f24812ea84d210729b838", func := "seedcorn/seedcornlaw03.DigestSponge", spec := "digestSponge", named := ["seedcorn/hex.small", "seedcorn/digest.places"], apart := false, laid := [("seedcorn/hex.small", laid_seedcorn_hex_small), ("seedcorn/digest.places", laid_seedcorn_digest_places)], narrowed := true }
def DigestSpongeUptoSaid : Prop := digestSpongeUptoRow.holds Tryd.pinned (OpenSpec.upto digestSpongeSpec)

end Rows
end Go.Proofs.YtbhibkhmjdleoaaDoor
