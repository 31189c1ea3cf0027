/-
  NARROWER THAN 'FOR EVERY INPUT', by the rows' own cells (each row's printed sentence says how): HexTexts: laid · HexReads: laid · HexLoads: laid · HexDumps: laid · HexBack: laid · HexNotes: laid · HexParses: laid.
  DERIVED. THE GIVEN ROWS OF THIS SEAT. 7 by the template 'for every input the law returns true; each argument reads behind the call as it read before'; 0 by the template 'total and deterministic' (their statements: YtiodfppgcjmlkaaDoorTotals.lean).
  GIVEN WITH THE SEED: the statements are not yours to turn. If you find one false, say at which input.
  Laid BY PROGRAM, IN A SANDBOX (cutbox-rows.mjs): the forced cells as the released guide's own fill.sh prints them over the translation 21e1ed50ad624731… (all of the seat's roots in one cut). By AI agents, Wed Nov 11 2026. No macro, syntax, notation, axiom, sorry.
-/
import Derived.Test.YtiodfppgcjmlkaaDoorChecked
import GoSem.Claim
import GoSem.ClaimJoined
import GoSem.ClaimMapViews
import Derived.JoinedTies
import Derived.KernelRfl
namespace Go.Proofs.YtiodfppgcjmlkaaDoor
/- THE CELL 'sum', in the pinned program and in every row, IS THE sha256 OF THE DUMP (.gsa) THAT YtiodfppgcjmlkaaDoorProg.lean LOADS. Nothing in Lean hashes anything: it is a label: what it is worth is what the hold of that sum in a sandbox is worth. -/
noncomputable def Tryd.pinned : Pinned := { name := "ytiodfppgcjmlkaadoor", sum := "21e1ed50ad624731bcd1f6e78f78b796f2a9053451fc8588fa3762b919911d67", checked := Tryd.checked }
namespace Rows
def none {H : Type} : Left H := { results := [], args := [] }

/- WHAT THE LISTED PACKAGE-LEVEL VARIABLES READ AS WHEN THE CALL BEGINS. Each datum BY PROGRAM (the guide's laid-datum.mjs) off the statement by which the dump's own 'gosem.cut.vars' lays the variable. In a bare row this is a premise. The card (YtiodfppgcjmlkaaDoorCards.lean) ties it to the program's text. -/
def laid_math_bits_deBruijn32tab {H : Type} : DataW H := .agg [.lit (.int .u8 0), .lit (.int .u8 1), .lit (.int .u8 28), .lit (.int .u8 2), .lit (.int .u8 29), .lit (.int .u8 14), .lit (.int .u8 24), .lit (.int .u8 3), .lit (.int .u8 30), .lit (.int .u8 22), .lit (.int .u8 20), .lit (.int .u8 15), .lit (.int .u8 25), .lit (.int .u8 17), .lit (.int .u8 4), .lit (.int .u8 8), .lit (.int .u8 31), .lit (.int .u8 27), .lit (.int .u8 13), .lit (.int .u8 23), .lit (.int .u8 21), .lit (.int .u8 19), .lit (.int .u8 16), .lit (.int .u8 7), .lit (.int .u8 26), .lit (.int .u8 12), .lit (.int .u8 18), .lit (.int .u8 6), .lit (.int .u8 11), .lit (.int .u8 5), .lit (.int .u8 10), .lit (.int .u8 9)]
def laid_math_bits_deBruijn64tab {H : Type} : DataW H := .agg [.lit (.int .u8 0), .lit (.int .u8 1), .lit (.int .u8 56), .lit (.int .u8 2), .lit (.int .u8 57), .lit (.int .u8 49), .lit (.int .u8 28), .lit (.int .u8 3), .lit (.int .u8 61), .lit (.int .u8 58), .lit (.int .u8 42), .lit (.int .u8 50), .lit (.int .u8 38), .lit (.int .u8 29), .lit (.int .u8 17), .lit (.int .u8 4), .lit (.int .u8 62), .lit (.int .u8 47), .lit (.int .u8 59), .lit (.int .u8 36), .lit (.int .u8 45), .lit (.int .u8 43), .lit (.int .u8 51), .lit (.int .u8 22), .lit (.int .u8 53), .lit (.int .u8 39), .lit (.int .u8 33), .lit (.int .u8 30), .lit (.int .u8 24), .lit (.int .u8 18), .lit (.int .u8 12), .lit (.int .u8 5), .lit (.int .u8 63), .lit (.int .u8 55), .lit (.int .u8 48), .lit (.int .u8 27), .lit (.int .u8 60), .lit (.int .u8 41), .lit (.int .u8 37), .lit (.int .u8 16), .lit (.int .u8 46), .lit (.int .u8 35), .lit (.int .u8 44), .lit (.int .u8 21), .lit (.int .u8 52), .lit (.int .u8 32), .lit (.int .u8 23), .lit (.int .u8 11), .lit (.int .u8 54), .lit (.int .u8 26), .lit (.int .u8 40), .lit (.int .u8 15), .lit (.int .u8 34), .lit (.int .u8 20), .lit (.int .u8 31), .lit (.int .u8 10), .lit (.int .u8 25), .lit (.int .u8 14), .lit (.int .u8 19), .lit (.int .u8 9), .lit (.int .u8 13), .lit (.int .u8 8), .lit (.int .u8 7), .lit (.int .u8 6)]
def laid_internal_strconv_uint64pow10 {H : Type} : DataW H := .agg [.lit (.int .u64 1), .lit (.int .u64 10), .lit (.int .u64 100), .lit (.int .u64 1000), .lit (.int .u64 10000), .lit (.int .u64 100000), .lit (.int .u64 1000000), .lit (.int .u64 10000000), .lit (.int .u64 100000000), .lit (.int .u64 1000000000), .lit (.int .u64 10000000000), .lit (.int .u64 100000000000), .lit (.int .u64 1000000000000), .lit (.int .u64 10000000000000), .lit (.int .u64 100000000000000), .lit (.int .u64 1000000000000000), .lit (.int .u64 10000000000000000), .lit (.int .u64 100000000000000000), .lit (.int .u64 1000000000000000000), .lit (.int .u64 10000000000000000000)]
def laid_seedcorn_hex_small {H : Type} : DataW H := .agg [.lit (.int .u8 48), .lit (.int .u8 49), .lit (.int .u8 50), .lit (.int .u8 51), .lit (.int .u8 52), .lit (.int .u8 53), .lit (.int .u8 54), .lit (.int .u8 55), .lit (.int .u8 56), .lit (.int .u8 57), .lit (.int .u8 97), .lit (.int .u8 98), .lit (.int .u8 99), .lit (.int .u8 100), .lit (.int .u8 101), .lit (.int .u8 102)]

/-- 'seedcornlaw02.HexTexts': WHATEVER THE INPUT: true; the input reads as it did. -/
def hexTextsSpec : ChangeSpec := { name := "hexTexts", fn := fun _ => fun
  | [d] => { results := [.lit (.bool true)], args := [d] }
  | _ => none }
def hexTextsRow : OpenClaim := { program := "ytiodfppgcjmlkaadoor", sum := "21e1ed50ad624731bcd1f6e78f78b796f2a9053451fc8588fa3762b919911d67", func := "seedcorn/seedcornlaw02.HexTexts", spec := "hexTexts", named := ["seedcorn/hex.small", "internal/strconv.uint64pow10", "math/bits.deBruijn32tab", "math/bits.deBruijn64tab"], apart := false, laid := [("math/bits.deBruijn32tab", laid_math_bits_deBruijn32tab), ("math/bits.deBruijn64tab", laid_math_bits_deBruijn64tab), ("internal/strconv.uint64pow10", laid_internal_strconv_uint64pow10), ("seedcorn/hex.small", laid_seedcorn_hex_small)] }
def HexTextsSaid : Prop := hexTextsRow.holds Tryd.pinned (OpenSpec.ofChange hexTextsSpec)

/-- ITS FALSE NEIGHBOUR: 'it returns false'. Refute it at one input. -/
def hexTextsWrong : ChangeSpec := { name := "hexTexts", fn := fun _ => fun
  | [d] => { results := [.lit (.bool false)], args := [d] }
  | _ => none }
def HexTextsWrongFalsely : Prop := hexTextsRow.holds Tryd.pinned (OpenSpec.ofChange hexTextsWrong)

/-- 'seedcornlaw02.HexReads': WHATEVER THE INPUT: true; the input reads as it did. -/
def hexReadsSpec : ChangeSpec := { name := "hexReads", fn := fun _ => fun
  | [d] => { results := [.lit (.bool true)], args := [d] }
  | _ => none }
def hexReadsRow : OpenClaim := { program := "ytiodfppgcjmlkaadoor", sum := "21e1ed50ad624731bcd1f6e78f78b796f2a9053451fc8588fa3762b919911d67", func := "seedcorn/seedcornlaw02.HexReads", spec := "hexReads", named := ["seedcorn/hex.small", "internal/strconv.uint64pow10", "math/bits.deBruijn32tab", "math/bits.deBruijn64tab"], apart := false, laid := [("math/bits.deBruijn32tab", laid_math_bits_deBruijn32tab), ("math/bits.deBruijn64tab", laid_math_bits_deBruijn64tab), ("internal/strconv.uint64pow10", laid_internal_strconv_uint64pow10), ("seedcorn/hex.small", laid_seedcorn_hex_small)] }
def HexReadsSaid : Prop := hexReadsRow.holds Tryd.pinned (OpenSpec.ofChange hexReadsSpec)

/-- ITS FALSE NEIGHBOUR: 'it returns false'. Refute it at one input. -/
def hexReadsWrong : ChangeSpec := { name := "hexReads", fn := fun _ => fun
  | [d] => { results := [.lit (.bool false)], args := [d] }
  | _ => none }
def HexReadsWrongFalsely : Prop := hexReadsRow.holds Tryd.pinned (OpenSpec.ofChange hexReadsWrong)

/-- 'seedcornlaw02.HexLoads': WHATEVER THE INPUT: true; the input reads as it did. -/
def hexLoadsSpec : ChangeSpec := { name := "hexLoads", fn := fun _ => fun
  | [d] => { results := [.lit (.bool true)], args := [d] }
  | _ => none }
def hexLoadsRow : OpenClaim := { program := "ytiodfppgcjmlkaadoor", sum := "21e1ed50ad624731bcd1f6e78f78b796f2a9053451fc8588fa3762b919911d67", func := "seedcorn/seedcornlaw02.HexLoads", spec := "hexLoads", named := ["seedcorn/hex.small", "internal/strconv.uint64pow10", "math/bits.deBruijn32tab", "math/bits.deBruijn64tab"], apart := false, laid := [("math/bits.deBruijn32tab", laid_math_bits_deBruijn32tab), ("math/bits.deBruijn64tab", laid_math_bits_deBruijn64tab), ("internal/strconv.uint64pow10", laid_internal_strconv_uint64pow10), ("seedcorn/hex.small", laid_seedcorn_hex_small)] }
def HexLoadsSaid : Prop := hexLoadsRow.holds Tryd.pinned (OpenSpec.ofChange hexLoadsSpec)

/-- ITS FALSE NEIGHBOUR: 'it returns false'. Refute it at one input. -/
def hexLoadsWrong : ChangeSpec := { name := "hexLoads", fn := fun _ => fun
  | [d] => { results := [.lit (.bool false)], args := [d] }
  | _ => none }
def HexLoadsWrongFalsely : Prop := hexLoadsRow.holds Tryd.pinned (OpenSpec.ofChange hexLoadsWrong)

/-- 'seedcornlaw02.HexDumps': WHATEVER THE INPUT: true; the input reads as it did. -/
def hexDumpsSpec : ChangeSpec := { name := "hexDumps", fn := fun _ => fun
  | [d] => { results := [.lit (.bool true)], args := [d] }
  | _ => none }
def hexDumpsRow : OpenClaim := { program := "ytiodfppgcjmlkaadoor", sum := "21e1ed50ad624731bcd1f6e78f78b796f2a9053451fc8588fa3762b919911d67", func := "seedcorn/seedcornlaw02.HexDumps", spec := "hexDumps", named := ["seedcorn/hex.small", "internal/strconv.uint64pow10", "math/bits.deBruijn32tab", "math/bits.deBruijn64tab"], apart := false, laid := [("math/bits.deBruijn32tab", laid_math_bits_deBruijn32tab), ("math/bits.deBruijn64tab", laid_math_bits_deBruijn64tab), ("internal/strconv.uint64pow10", laid_internal_strconv_uint64pow10), ("seedcorn/hex.small", laid_seedcorn_hex_small)] }
def HexDumpsSaid : Prop := hexDumpsRow.holds Tryd.pinned (OpenSpec.ofChange hexDumpsSpec)

/-- ITS FALSE NEIGHBOUR: 'it returns false'. Refute it at one input. -/
def hexDumpsWrong : ChangeSpec := { name := "hexDumps", fn := fun _ => fun
  | [d] => { results := [.lit (.bool false)], args := [d] }
  | _ => none }
def HexDumpsWrongFalsely : Prop := hexDumpsRow.holds Tryd.pinned (OpenSpec.ofChange hexDumpsWrong)

/-- 'seedcornlaw02.HexBack': WHATEVER THE INPUT: true; the input reads as it did. -/
def hexBackSpec : ChangeSpec := { name := "hexBack", fn := fun _ => fun
  | [d1, d2] => { results := [.lit (.bool true)], args := [d1, d2] }
  | _ => none }
def hexBackRow : OpenClaim := { program := "ytiodfppgcjmlkaadoor", sum := "21e1ed50ad624731bcd1f6e78f78b796f2a9053451fc8588fa3762b919911d67", func := "seedcorn/seedcornlaw02.HexBack", spec := "hexBack", named := ["seedcorn/hex.small", "internal/strconv.uint64pow10", "math/bits.deBruijn32tab", "math/bits.deBruijn64tab"], apart := false, laid := [("math/bits.deBruijn32tab", laid_math_bits_deBruijn32tab), ("math/bits.deBruijn64tab", laid_math_bits_deBruijn64tab), ("internal/strconv.uint64pow10", laid_internal_strconv_uint64pow10), ("seedcorn/hex.small", laid_seedcorn_hex_small)] }
def HexBackSaid : Prop := hexBackRow.holds Tryd.pinned (OpenSpec.ofChange hexBackSpec)

/-- ITS FALSE NEIGHBOUR: 'it returns false'. Refute it at one input. -/
def hexBackWrong : ChangeSpec := { name := "hexBack", fn := fun _ => fun
  | [d1, d2] => { results := [.lit (.bool false)], args := [d1, d2] }
  | _ => none }
def HexBackWrongFalsely : Prop := hexBackRow.holds Tryd.pinned (OpenSpec.ofChange hexBackWrong)

/-- 'seedcornlaw02.HexNotes': WHATEVER THE INPUT: true; the input reads as it did. -/
def hexNotesSpec : ChangeSpec := { name := "hexNotes", fn := fun _ => fun
  | [d1, d2, d3] => { results := [.lit (.bool true)], args := [d1, d2, d3] }
  | _ => none }
def hexNotesRow : OpenClaim := { program := "ytiodfppgcjmlkaadoor", sum := "21e1ed50ad624731bcd1f6e78f78b796f2a9053451fc8588fa3762b919911d67", func := "seedcorn/seedcornlaw02.HexNotes", spec := "hexNotes", named := ["seedcorn/hex.small", "internal/strconv.uint64pow10", "math/bits.deBruijn32tab", "math/bits.deBruijn64tab"], apart := false, laid := [("math/bits.deBruijn32tab", laid_math_bits_deBruijn32tab), ("math/bits.deBruijn64tab", laid_math_bits_deBruijn64tab), ("internal/strconv.uint64pow10", laid_internal_strconv_uint64pow10), ("seedcorn/hex.small", laid_seedcorn_hex_small)] }
def HexNotesSaid : Prop := hexNotesRow.holds Tryd.pinned (OpenSpec.ofChange hexNotesSpec)

/-- ITS FALSE NEIGHBOUR: 'it returns false'. Refute it at one input. -/
def hexNotesWrong : ChangeSpec := { name := "hexNotes", fn := fun _ => fun
  | [d1, d2, d3] => { results := [.lit (.bool false)], args := [d1, d2, d3] }
  | _ => none }
def HexNotesWrongFalsely : Prop := hexNotesRow.holds Tryd.pinned (OpenSpec.ofChange hexNotesWrong)

/-- 'seedcornlaw02.HexParses': WHATEVER THE INPUT: true; the input reads as it did. -/
def hexParsesSpec : ChangeSpec := { name := "hexParses", fn := fun _ => fun
  | [d] => { results := [.lit (.bool true)], args := [d] }
  | _ => none }
def hexParsesRow : OpenClaim := { program := "ytiodfppgcjmlkaadoor", sum := "21e1ed50ad624731bcd1f6e78f78b796f2a9053451fc8588fa3762b919911d67", func := "seedcorn/seedcornlaw02.HexParses", spec := "hexParses", named := ["seedcorn/hex.small", "internal/strconv.uint64pow10", "math/bits.deBruijn32tab", "math/bits.deBruijn64tab"], apart := false, laid := [("math/bits.deBruijn32tab", laid_math_bits_deBruijn32tab), ("math/bits.deBruijn64tab", laid_math_bits_deBruijn64tab), ("internal/strconv.uint64pow10", laid_internal_strconv_uint64pow10), ("seedcorn/hex.small", laid_seedcorn_hex_small)] }
def HexParsesSaid : Prop := hexParsesRow.holds Tryd.pinned (OpenSpec.ofChange hexParsesSpec)

/-- ITS FALSE NEIGHBOUR: 'it returns false'. Refute it at one input. -/
def hexParsesWrong : ChangeSpec := { name := "hexParses", fn := fun _ => fun
  | [d] => { results := [.lit (.bool false)], args := [d] }
  | _ => none }
def HexParsesWrongFalsely : Prop := hexParsesRow.holds Tryd.pinned (OpenSpec.ofChange hexParsesWrong)

/- THE SECOND FORM. 'bulk': how many values and letters a reading holds, each counted each time it is reached (what is shared counts as often as it is met; a slice's spare places count too). A statement '..UptoSaid' is the law's where the arguments, and the package variables that the reading takes, are together of bulk at most 1048576: NARROWER than '..Said'. Prove '..Said' where nothing that the law and all that it calls make is longer than what came in: it says more and counts as full. Else prove '..UptoSaid'. A law counts once. -/
mutual
def uptoBulk {H : Type} : DataW H → Nat
  | .lit (.string bytes) => bytes.length + 1
  | .lit _ => 1
  | .nil => 1
  | .ptr d => uptoBulk d + 1
  | .slice elems spare => uptoBulkAll elems + uptoBulkAll spare + 1
  | .agg parts => uptoBulkAll parts + 1
  | .iface _ d => uptoBulk d + 1
  | .map entries => uptoBulkEntries entries + 1
  | .held _ => 1
def uptoBulkAll {H : Type} : List (DataW H) → Nat
  | [] => 0
  | d :: r => uptoBulk d + uptoBulkAll r
def uptoBulkEntries {H : Type} : List (Lit × DataW H) → Nat
  | [] => 0
  | x :: r => uptoBulkEntry x + uptoBulkEntries r
def uptoBulkEntry {H : Type} : Lit × DataW H → Nat
  | (.string bytes, d) => bytes.length + uptoBulk d + 1
  | (_, d) => uptoBulk d + 1
 end
def uptoSmall : (H : Type) → List (DataW H) → Bool := fun _ ds => decide (uptoBulkAll ds ≤ 1048576)
def OpenSpec.upto (s : _root_.Go.ChangeSpec) : _root_.Go.OpenSpec := { _root_.Go.OpenSpec.ofChange s with cond := some uptoSmall }

/-- 'seedcornlaw02.HexTexts', WHERE WHAT IT READS IS OF BULK AT MOST 1048576: true; the input reads as it did. -/
def hexTextsUptoRow : OpenClaim := { program := "ytiodfppgcjmlkaadoor", sum := "21e1ed50ad624731bcd1f6e78f78b796f2a9053451fc8588fa3762b919911d67", func := "seedcorn/seedcornlaw02.HexTexts", spec := "hexTexts", named := ["seedcorn/hex.small", "internal/strconv.uint64pow10", "math/bits.deBruijn32tab", "math/bits.deBruijn64tab"], apart := false, laid := [("math/bits.deBruijn32tab", laid_math_bits_deBruijn32tab), ("math/bits.deBruijn64tab", laid_math_bits_deBruijn64tab), ("internal/strconv.uint64pow10", laid_internal_strconv_uint64pow10), ("seedcorn/hex.small", laid_seedcorn_hex_small)], narrowed := true }
def HexTextsUptoSaid : Prop := hexTextsUptoRow.holds Tryd.pinned (OpenSpec.upto hexTextsSpec)

/-- 'seedcornlaw02.HexReads', WHERE WHAT IT READS IS OF BULK AT MOST 1048576: true; the input reads as it did. -/
def hexReadsUptoRow : OpenClaim := { program := "ytiodfppgcjmlkaadoor", sum := "21e1ed50ad624731bcd1f6e78f78b796f2a9053451fc8588fa3762b919911d67", func := "seedcorn/seedcornlaw02.HexReads", spec := "hexReads", named := ["seedcorn/hex.small", "internal/strconv.uint64pow10", "math/bits.deBruijn32tab", "math/bits.deBruijn64tab"], apart := false, laid := [("math/bits.deBruijn32tab", laid_math_bits_deBruijn32tab), ("math/bits.deBruijn64tab", laid_math_bits_deBruijn64tab), ("internal/strconv.uint64pow10", laid_internal_strconv_uint64pow10), ("seedcorn/hex.small", laid_seedcorn_hex_small)], narrowed := true }
def HexReadsUptoSaid : Prop := hexReadsUptoRow.holds Tryd.pinned (OpenSpec.upto hexReadsSpec)

/-- 'seedcornlaw02.HexLoads', WHERE WHAT IT READS IS OF BULK AT MOST 1048576: true; the input reads as it did. -/
def hexLoadsUptoRow : OpenClaim := { program := "ytiodfppgcjmlkaadoor", sum := "21e1ed50ad624731bcd1f6e78f78b796f2a9053451fc8588fa3762b919911d67", func := "seedcorn/seedcornlaw02.HexLoads", spec := "hexLoads", named := ["seedcorn/hex.small", "internal/strconv.uint64pow10", "math/bits.deBruijn32tab", "math/bits.deBruijn64tab"], apart := false, laid := [("math/bits.deBruijn32tab", laid_math_bits_deBruijn32tab), ("math/bits.deBruijn64tab", laid_math_bits_deBruijn64tab), ("internal/strconv.uint64pow10", laid_internal_strconv_uint64pow10), ("seedcorn/hex.small", laid_seedcorn_hex_small)], narrowed := true }
def HexLoadsUptoSaid : Prop := hexLoadsUptoRow.holds Tryd.pinned (OpenSpec.upto hexLoadsSpec)

/-- 'seedcornlaw02.HexDumps', WHERE WHAT IT READS IS OF BULK AT MOST 1048576: true; the input reads as it did. -/
def hexDumpsUptoRow : OpenClaim := { program := "ytiodfppgcjmlkaadoor", sum := "21e1ed50ad624731bcd1f6e78f78b796f2a9053451fc8588fa3762b919911d67", func := "seedcorn/seedcornlaw02.HexDumps", spec := "hexDumps", named := ["seedcorn/hex.small", "internal/strconv.uint64pow10", "math/bits.deBruijn32tab", "math/bits.deBruijn64tab"], apart := false, laid := [("math/bits.deBruijn32tab", laid_math_bits_deBruijn32tab), ("math/bits.deBruijn64tab", laid_math_bits_deBruijn64tab), ("internal/strconv.uint64pow10", laid_internal_strconv_uint64pow10), ("seedcorn/hex.small", laid_seedcorn_hex_small)], narrowed := true }
def HexDumpsUptoSaid : Prop := hexDumpsUptoRow.holds Tryd.pinned (OpenSpec.upto hexDumpsSpec)

/-- 'seedcornlaw02.HexBack', WHERE WHAT IT READS IS OF BULK AT MOST 1048576: true; the input reads as it did. -/
def hexBackUptoRow : OpenClaim := { program := "ytiodfppgcjmlkaadoor", sum := "21e1ed50ad624731bcd1f6e78f78b796f2a9053451fc8588fa3762b919911d67", func := "seedcorn/seedcornlaw02.HexBack", spec := "hexBack", named := ["seedcorn/hex.small", "internal/strconv.uint64pow10", "math/bits.deBruijn32tab", "math/bits.deBruijn64tab"], apart := false, laid := [("math/bits.deBruijn32tab", laid_math_bits_deBruijn32tab), ("math/bits.deBruijn64tab", laid_math_bits_deBruijn64tab), ("internal/strconv.uint64pow10", laid_internal_strconv_uint64pow10), ("seedcorn/hex.small", laid_seedcorn_hex_small)], narrowed := true }
def HexBackUptoSaid : Prop := hexBackUptoRow.holds Tryd.pinned (OpenSpec.upto hexBackSpec)

/-- 'seedcornlaw02.HexNotes', WHERE WHAT IT READS IS OF BULK AT MOST 1048576: true; the input reads as it did. -/
def hexNotesUptoRow : OpenClaim := { program := "ytiodfppgcjmlkaadoor", sum := "21e1ed50ad624731bcd1f6e78f78b796f2a9053451fc8588fa3762b919911d67", func := "seedcorn/seedcornlaw02.HexNotes", spec := "hexNotes", named := ["seedcorn/hex.small", "internal/strconv.uint64pow10", "math/bits.deBruijn32tab", "math/bits.deBruijn64tab"], apart := false, laid := [("math/bits.deBruijn32tab", laid_math_bits_deBruijn32tab), ("math/bits.deBruijn64tab", laid_math_bits_deBruijn64tab), ("internal/strconv.uint64pow10", laid_internal_strconv_uint64pow10), ("seedcorn/hex.small", laid_seedcorn_hex_small)], narrowed := true }
def HexNotesUptoSaid : Prop := hexNotesUptoRow.holds Tryd.pinned (OpenSpec.upto hexNotesSpec)

/-- 'seedcornlaw02.HexParses', WHERE WHAT IT READS IS OF BULK AT MOST 1048576: true; the input reads as it did. -/
def hexParsesUptoRow : OpenClaim := { program := "ytiodfppgcjmlkaadoor", sum := "21e1ed50ad624731bcd1f6e78f78b796f2a9053451fc8588fa3762b919911d67", func := "seedcorn/seedcornlaw02.HexParses", spec := "hexParses", named := ["seedcorn/hex.small", "internal/strconv.uint64pow10", "math/bits.deBruijn32tab", "math/bits.deBruijn64tab"], apart := false, laid := [("math/bits.deBruijn32tab", laid_math_bits_deBruijn32tab), ("math/bits.deBruijn64tab", laid_math_bits_deBruijn64tab), ("internal/strconv.uint64pow10", laid_internal_strconv_uint64pow10), ("seedcorn/hex.small", laid_seedcorn_hex_small)], narrowed := true }
def HexParsesUptoSaid : Prop := hexParsesUptoRow.holds Tryd.pinned (OpenSpec.upto hexParsesSpec)

end Rows
end Go.Proofs.YtiodfppgcjmlkaaDoor
