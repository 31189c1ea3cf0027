/- Layer 1: turning, walked: the program's and the document's. -/
import Derived.Test.YtdkkomcokefkhaaDoorChecked
import Derived.Test.YtdkkomcokefkhaaDoorInfo
import Derived.Test.YtdkkomcokefkhaaDoorPw
namespace Go.Proofs.YtdkkomcokefkhaaDoor
open Go.RowKit

theorem bits_RotateLeft32 (a : UInt32) (k : Nat) (w : World) (hk : k ≤ 31) :
    Calls Tryd.prog 44 #[.int .u32 a.toNat, .int .i64 k] w fun e w' => e = .returned (.int .u32 (rotI k a.toNat)) ∧ w = w' := by
  have ha := a.toNat_lt
  have hw : IntKind.u64.wrap (k : Int) = k := IntWalk.u64_in _ ⟨by omega, by omega⟩
  have hand : bits .and .u64 (k : Int) 31 = k := by
    rw [show (31 : Int) = ((31 : Nat) : Int) from rfl, bits_and_u64_nat _ _ (by omega) (by omega), nat_mask5, Nat.mod_eq_of_lt (by omega)]
  go_enter Tryd.func44, Tryd.ntmps44
  go_wp2
  go_returns
  exact ⟨ret_int (or_parts_int a.toNat k ha hk), rfl⟩

theorem word_Turn (a : UInt32) (n : Int) (w : World) :
    Calls Tryd.prog 41 #[.int .u32 a.toNat, .int .i64 n] w fun e w' => e = .returned (.int .u32 (turnW a n).toNat) ∧ w = w' := by
  have ha := a.toNat_lt
  obtain ⟨k, hk, hm, hcase⟩ := tmod32k n
  have HE := Lib.hid (turnW_toNat a n)
  rw [hm] at HE
  clear hm
  rcases hcase with ⟨ht, hneg⟩ | ht
  all_goals
    go_enter Tryd.func41, Tryd.ntmps41
    go_wp2_with (go_at_call 44; refine (bits_RotateLeft32 a k _ hk).mono ?_; rintro e w' ⟨rfl, rfl⟩)
    go_returns
    exact ⟨ret_int (by rw [HE.out]), rfl⟩

theorem ref_Turn (a : UInt32) (n : Int) (w : World) :
    Calls Tryd.prog 43 #[.int .u32 a.toNat, .int .i64 n] w fun e w' => e = .returned (.int .u32 (turnW a n).toNat) ∧ w = w' := by
  have ha := a.toNat_lt
  obtain ⟨k, hk, hm, hcase⟩ := tmod32k n
  have HE := Lib.hid (turnW_toNat a n)
  rw [hm] at HE
  clear hm
  rcases hcase with ⟨ht, hneg⟩ | ht
  all_goals
    go_enter Tryd.func43, Tryd.ntmps43
    go_wp2
    go_loop [6, 7] (fun x i => ∃ j m : Nat, j ≤ k ∧ i = .int .i64 j ∧ x = .int .u64 m ∧ m < 4294967296 ∧ Hid (m = rotI j a.toNat)) (fun _ i => k - (intOf i).toNat)
    case atStart => exact ⟨0, a.toNat, by omega, rfl, rfl, ha, rfl⟩
    case round =>
      obtain ⟨j, m, hj, rfl, rfl, hlt, hr⟩ := hrel
      clear ht
      by_cases hjk : j < k
      · go_wp2
        go_round
        case rel => exact ⟨j + 1, rot1 m, by omega, by go_num, congrArg (Value.int .u64) (rot1_int m), by unfold rot1; omega, by rw [hr.out]; rfl⟩
        case measure => simp [intOf]; omega
      · go_wp2
        go_returns
        exact ⟨ret_int (by rw [HE.out, show k = j by omega, ← hr.out]), rfl⟩
end Go.Proofs.YtdkkomcokefkhaaDoor
