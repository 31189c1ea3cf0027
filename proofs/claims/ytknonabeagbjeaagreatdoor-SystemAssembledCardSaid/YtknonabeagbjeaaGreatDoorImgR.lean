/- Layer 8: an image is read of its bytes; walked. -/
import Derived.Lib.Strings
import Derived.Test.YtknonabeagbjeaaGreatDoorSeqB
namespace Go.Proofs.YtknonabeagbjeaaGreatDoor
open Go.RowKit Go.Shelf

attribute [local go_sem] Oper.semAt_some

/-- What an image's bytes say: its words, and how many words of memory it has; none, if they are no image's. -/
def readI (l : List UInt8) : Option (List UInt32 × Nat) :=
  if l.length < 12 then none else if l.take 4 ≠ [83, 69, 69, 68] then none else if 65548 < l.length then none
  else match wordsL ((l.drop 4).take 8) with
    | [n, d] => if 32768 < d.toNat then none else if l.length ≠ 12 + 4 * n.toNat then none else some (wordsL (l.drop 12), d.toNat)
    | _ => none
theorem two_words (l : List UInt8) (h : l.length = 8) : ∃ n d, wordsL l = [n, d] := by
  have := wordsL_length l 2 h
  match wordsL l, this with
  | [n, d], _ => exact ⟨n, d, rfl⟩

end Go.Proofs.YtknonabeagbjeaaGreatDoor
