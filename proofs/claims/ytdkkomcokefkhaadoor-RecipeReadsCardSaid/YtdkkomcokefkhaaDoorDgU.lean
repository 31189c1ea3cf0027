/- Layer 3: Unmix, walked. -/
import Derived.Test.YtdkkomcokefkhaaDoorDgM
namespace Go.Proofs.YtdkkomcokefkhaaDoor
open Go.RowKit

theorem stepU (x : UInt32) (k : Nat) (_h : k < 8) : ((x.toNat : Int) - 2654435769 * ((k : Int) + 1)) % 4294967296 = ((x - 2654435769 * (UInt32.ofNat k + 1)).toNat : Int) := by
  rw [w_sub, UInt32.toNat_mul, UInt32.toNat_add, UInt32.toNat_ofNat']
  have := x.toNat_lt
  rw [show (2654435769 : UInt32).toNat = 2654435769 from rfl, show (1 : UInt32).toNat = 1 from rfl]
  omega
theorem unIns_step {G H : Nat → UInt32} {n j : Nat} (hj : j = 3 - n) (h : unIns G n = H) : unIn H j = unIns G (n + 1) := by
  show _ = unIn (unIns G n) (3 - n)
  rw [h, hj]
theorem turnAt_neg (j : Nat) : IntKind.i64.wrap (-(turnAt j)) = -(turnAt j) := by
  unfold turnAt
  split
  · rfl
  split
  · rfl
  split
  · rfl
  · rfl

theorem un_rel {w W : World} {G : Nat → UInt32} {m j : Nat} (h : m < 4) (hj : (3 : Int) - m = j) (hm : Mx w (unIns G (m + 1)) W) : ∃ mm : Nat, mm ≤ 4 ∧ Value.int .i64 ((j : Int) - 1) = .int .i64 (3 - (mm : Int)) ∧ Mx w (unIns G mm) W :=
  ⟨m + 1, h, by congr 1; omega, hm⟩

end Go.Proofs.YtdkkomcokefkhaaDoor
