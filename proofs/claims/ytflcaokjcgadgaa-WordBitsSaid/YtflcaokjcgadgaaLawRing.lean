/- WordRing: the law's own text, walked. -/
import Derived.Test.YtflcaokjcgadgaaInfo
import Derived.Test.YtflcaokjcgadgaaPw
import Derived.Test.YtflcaokjcgadgaaAlive
namespace Go.Proofs.Ytflcaokjcgadgaa
open Go.RowKit

def ofW (op : Int) (a b : UInt32) : UInt32 := (applyW op a b).1
theorem of_any (op : Int) (a b : UInt32) (w : World) :
    Calls Try.prog 15 #[.int .i64 op, .int .u32 a.toNat, .int .u32 b.toNat] w fun e w' => e = .returned (.int .u32 (ofW op a b).toNat) ∧ w = w' := by
  go_enter Try.func15, Try.ntmps15
  go_wp2_with (go_at_call 11; refine (word_Apply _ _ _ _).mono ?_; rintro e w' ⟨rfl, rfl⟩)
  go_returns
  exact ⟨rfl, rfl⟩
theorem ring_walk (a b c : UInt32) (w : World) :
    Calls Try.prog 5 #[.int .u32 a.toNat, .int .u32 b.toNat, .int .u32 c.toNat] w fun e w' => e = .returned (.bool true) ∧ Below w.heap.size w w' := by
  have r1 : ofW 4 b a = ofW 4 a b := UInt32.add_comm b a
  have r2 : ofW 6 b a = ofW 6 a b := UInt32.mul_comm b a
  have r3 : ofW 5 (ofW 4 a b) b = a := UInt32.add_sub_cancel a b
  have r4 : ofW 4 (ofW 5 a b) b = a := UInt32.sub_add_cancel a b
  have r5 : ofW 4 a (ofW 4 b c) = ofW 4 (ofW 4 a b) c := (UInt32.add_assoc a b c).symm
  have r6 : ofW 6 a (ofW 6 b c) = ofW 6 (ofW 6 a b) c := (UInt32.mul_assoc a b c).symm
  have r7 : ofW 4 (ofW 6 a c) (ofW 6 b c) = ofW 6 (ofW 4 a b) c := (UInt32.add_mul).symm
  go_enter Try.func5, Try.ntmps5
  go_wp2_with fail
  refine (alive_any _).mono ?_
  rintro e w1 ⟨rfl, hb⟩
  go_wp2_with (go_at_call 15; refine (of_any _ _ _ _).mono ?_; rintro e w' ⟨rfl, rfl⟩)
  go_returns
  exact ⟨rfl, hb⟩
end Go.Proofs.Ytflcaokjcgadgaa
