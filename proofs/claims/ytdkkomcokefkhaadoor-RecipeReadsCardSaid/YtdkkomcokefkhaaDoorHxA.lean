/- Layer 2: texts of bytes, and their reading, walked. -/
import Derived.Test.YtdkkomcokefkhaaDoorHxT
namespace Go.Proofs.YtdkkomcokefkhaaDoor
open Go.RowKit

theorem and15 (x : UInt8) : bits .and .u8 (x.toNat : Int) 15 = (x.toNat : Int) % 16 := by
  have h := u8_and_nat x.toNat 15 x.toNat_lt (by decide)
  have h2 : x.toNat &&& 15 = x.toNat % 16 := Nat.and_two_pow_sub_one_eq_mod x.toNat 4
  rw [h2] at h
  exact h.trans (by omega)

end Go.Proofs.YtdkkomcokefkhaaDoor
