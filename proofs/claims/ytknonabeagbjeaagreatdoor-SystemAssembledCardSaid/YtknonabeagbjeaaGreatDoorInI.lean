/- Layer 1's decimal text in the document's answer, walked; and the program's own, of an int. -/
import Derived.Lib.ItoaMem
import Derived.Test.YtknonabeagbjeaaGreatDoorApp
import Derived.Test.YtknonabeagbjeaaGreatDoorInB
import Derived.Test.YtknonabeagbjeaaGreatDoorShE
namespace Go.Proofs.YtknonabeagbjeaaGreatDoor
open Go.RowKit

theorem cv1 (x : Int) (y : UInt8) (hy : x = (y.toNat : Int)) (W : World) : (convert 45 9 (.slice (some ⟨W.heap.size, 0, none⟩) 1 1)).run Tryz.prog (W.alloc (.cells #[.int .u8 x] 5)) = .ok (.string ⟨#[y]⟩) (W.alloc (.cells #[.int .u8 x] 5)) := by
  subst hy
  exact run_string_row [y] 45 9 Tryz.underlying45 Tryz.underlying5 Tryz.underlying9 (own_lit1 W _ W.heap.size (Nat.le_refl _) _)
theorem dec_rec' {n : Nat} (h : 10 ≤ n) : Lib.decDigits n = Lib.decDigits (n / 10) ++ [UInt8.ofNat (48 + n % 10)] := by
  conv => lhs; rw [Lib.decDigits]
  rw [dif_neg (by omega)]
theorem dec_length32 (n : Nat) (h : n < 4294967296) : (Lib.decDigits n).length ≤ 10 := by
  have key : ∀ k n, n < 10 ^ (k + 1) → (Lib.decDigits n).length ≤ k + 1 := by
    intro k
    induction k with
    | zero => intro n hn; rw [Lib.decDigits_one (by omega)]; simp
    | succ k ih =>
      intro n hn
      by_cases h10 : n < 10
      · rw [Lib.decDigits_one h10]; simp
      · rw [dec_rec' (by omega), List.length_append]
        have h2 := ih (n / 10) (by rw [Nat.pow_succ] at hn; omega)
        simp only [List.length_singleton]
        omega
  exact key 9 n (by omega)
theorem ba_size (t : ByteArray) : t.size = t.data.toList.length := rfl
theorem ba_app (a b : ByteArray) : (a ++ b).data.toList = a.data.toList ++ b.data.toList := by
  rw [ByteArray.data_append, Array.toList_append]
theorem one_list (x : UInt8) : (⟨#[x]⟩ : ByteArray).data.toList = [x] := rfl

end Go.Proofs.YtknonabeagbjeaaGreatDoor
