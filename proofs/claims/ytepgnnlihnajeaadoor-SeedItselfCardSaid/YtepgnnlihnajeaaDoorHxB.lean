/- Layer 2: a text of digits is read, walked. -/
import Derived.Test.YtepgnnlihnajeaaDoorHxA
namespace Go.Proofs.YtepgnnlihnajeaaDoor
open Go.RowKit

theorem or_nib_all : ∀ a, a < 16 → ∀ b, b < 16 → bits .or .i64 ((a * 16 : Nat) : Int) ((b : Nat) : Int) = ((a * 16 + b : Nat) : Int) := by decide +kernel
theorem or_nib (a b : Int) (h0 : 0 ≤ a) (h1 : a < 16) (h2 : 0 ≤ b) (h3 : b < 16) : bits .or .i64 (a * 16) b = a * 16 + b := by
  obtain ⟨A, rfl⟩ := Int.eq_ofNat_of_zero_le h0
  obtain ⟨B, rfl⟩ := Int.eq_ofNat_of_zero_le h2
  have := or_nib_all A (by omega) B (by omega)
  simpa using this
theorem nib_bv (a b : Int) (h0 : 0 ≤ a) (h1 : a < 16) (h2 : 0 ≤ b) (h3 : b < 16) : bv (UInt8.ofNat (a.toNat * 16 + b.toNat)) = .int .u8 (a * 16 + b) := by
  unfold bv
  rw [UInt8.toNat_ofNat']
  congr 1
  omega

end Go.Proofs.YtepgnnlihnajeaaDoor
