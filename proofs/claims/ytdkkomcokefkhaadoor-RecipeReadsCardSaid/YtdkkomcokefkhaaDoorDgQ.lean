/- Layer 3, plain: a digest's bytes, and its reading. -/
import Derived.Test.YtdkkomcokefkhaaDoorDg
import Derived.Test.YtdkkomcokefkhaaDoorHx
namespace Go.Proofs.YtdkkomcokefkhaaDoor
open Go.RowKit

def be4 (x : UInt32) : List UInt8 := [(x >>> 24).toUInt8, (x >>> 16).toUInt8, (x >>> 8).toUInt8, x.toUInt8]
def beB (f : Nat → UInt32) : List UInt8 := be4 (f 0) ++ be4 (f 1) ++ be4 (f 2) ++ be4 (f 3)
theorem be4_vals (x : UInt32) : (be4 x).map bv = [.int .u8 ((x.toNat : Int) / 16777216), .int .u8 ((x.toNat : Int) / 65536 % 256), .int .u8 ((x.toNat : Int) / 256 % 256), .int .u8 ((x.toNat : Int) % 256)] := by
  have h := le4_vals x
  unfold le4 at h
  unfold be4
  simp only [List.map_cons, List.map_nil, List.cons.injEq, and_true] at h ⊢
  exact ⟨h.2.2.2, h.2.2.1, h.2.1, h.1⟩
/-- The words of a digest's bytes. -/
def deB (l : List UInt8) (i : Nat) : UInt32 := word4 (l.getD (4 * i + 3) 0) (l.getD (4 * i + 2) 0) (l.getD (4 * i + 1) 0) (l.getD (4 * i) 0)
/-- A digest is read: none, if the text is none's. -/
def dParse (l : List UInt8) : Option (List UInt8) := if l.length ≠ 32 then none else match (parseI l).2.2 with
  | true => some (parseI l).1
  | false => none
end Go.Proofs.YtdkkomcokefkhaaDoor
