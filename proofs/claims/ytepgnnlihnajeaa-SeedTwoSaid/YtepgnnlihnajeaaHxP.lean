/- Layer 2: the laid table of the powers of ten; and, plain, what a dump is. -/
import Derived.Test.YtepgnnlihnajeaaHxT
import Derived.Lib.ItoaMem
import Derived.Lib.ItoaLen
import Derived.Lib.AppendIntMem
import Derived.Lib.LaidTab
import Derived.WalkSmall
namespace Go.Proofs.Ytepgnnlihnajeaa
open Go.RowKit

theorem dec_length (n : Nat) (h : n ≤ 1000000000000) : (Lib.decDigits n).length ≤ 21 := by
  have h1 := Lib.itoa_length_le (n : Int) (by omega) (by omega)
  rwa [Lib.itoa_nonneg] at h1
theorem dec_rec {n : Nat} (h : 10 ≤ n) : Lib.decDigits n = Lib.decDigits (n / 10) ++ [UInt8.ofNat (48 + n % 10)] := by
  conv => lhs; rw [Lib.decDigits]
  rw [dif_neg (by omega)]

/-- What stands of a byte in a dump, and behind a line's bytes. -/
def dBody (l : List UInt8) (i : Nat) : List UInt8 := (if i % 16 = 0 then [] else [32]) ++ hexT ((l.drop i).take 1)
def dTail (n : Nat) : List UInt8 := [32, 32, 35, 32] ++ Lib.decDigits n ++ [10]
def dumpTo (l : List UInt8) : Nat → List UInt8
  | 0 => []
  | i + 1 => dumpTo l i ++ dBody l i ++ (if i % 16 = 15 ∨ i + 1 = l.length then dTail (i - i % 16) else [])
def dumpL (l : List UInt8) : List UInt8 := dumpTo l l.length
theorem dBody_eq (l : List UInt8) (i : Nat) (h : i < l.length) : dBody l i = (if i % 16 = 0 then [] else [32]) ++ [smallD (l[i].toNat / 16), smallD (l[i].toNat % 16)] := by
  unfold dBody
  rw [List.drop_eq_getElem_cons h, List.take_succ_cons, List.take_zero]
  rfl
theorem dBody_length (l : List UInt8) (i : Nat) (h : i < l.length) : (dBody l i).length ≤ 3 := by
  rw [dBody_eq l i h]
  split <;> simp
theorem dTail_length (n : Nat) (h : n ≤ 1000000000000) : (dTail n).length ≤ 26 := by
  have := dec_length n h
  unfold dTail
  simp
  omega
theorem dumpTo_length (l : List UInt8) (k : Nat) (hk : k ≤ l.length) (hl : l.length ≤ 1000000000) : (dumpTo l k).length ≤ 29 * k := by
  induction k with
  | zero => exact Nat.le_refl _
  | succ k ih =>
    have h1 := dBody_length l k (by omega)
    have h2 := dTail_length (k - k % 16) (by omega)
    have h3 := ih (by omega)
    unfold dumpTo
    rw [List.length_append, List.length_append]
    split
    · omega
    · rw [List.length_nil]; omega
theorem dump_mid (l : List UInt8) (i : Nat) (h1 : i % 16 ≠ 15) (h2 : i + 1 ≠ l.length) : dumpTo l (i + 1) = dumpTo l i ++ dBody l i := by
  rw [dumpTo, if_neg (by omega), List.append_nil]
theorem dump_last (l : List UInt8) (i : Nat) (h : i % 16 = 15 ∨ i + 1 = l.length) : dumpTo l (i + 1) = dumpTo l i ++ dBody l i ++ dTail (i - i % 16) := by
  rw [dumpTo, if_pos h]
end Go.Proofs.Ytepgnnlihnajeaa
