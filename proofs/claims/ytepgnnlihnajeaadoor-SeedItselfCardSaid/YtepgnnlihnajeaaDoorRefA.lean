/- Layer 1, the document's answer: shift, turn, bits, walked. -/
import Derived.Test.YtepgnnlihnajeaaDoorChecked
import Derived.Test.YtepgnnlihnajeaaDoorInfo
import Derived.Test.YtepgnnlihnajeaaDoorPw
namespace Go.Proofs.YtepgnnlihnajeaaDoor
open Go.RowKit

theorem ref_flag (ok : Bool) (w : World) :
    Calls Tryd.prog 44 #[.bool ok] w fun e w' => e = .returned (.int .u32 (if ok then 1 else 0)) ∧ w = w' := by
  cases ok
  all_goals
    go_enter Tryd.func44, Tryd.ntmps44
    go_wp2
    go_returns
    exact ⟨rfl, rfl⟩

theorem ref_shift (op : Int) (a b : UInt32) (w : World) :
    Calls Tryd.prog 43 #[.int .i64 op, .int .u32 a.toNat, .int .u32 b.toNat] w fun e w' => e = .returned (.int .u32 (shiftW op a b).toNat) ∧ w = w' := by
  have ha := a.toNat_lt
  have hb := b.toNat_lt
  by_cases h : 31 < b.toNat
  · go_enter Tryd.func43, Tryd.ntmps43
    go_wp2
    go_returns
    exact ⟨ret_int (by unfold shiftW; rw [if_pos h]; rfl), rfl⟩
  · obtain ⟨B, hB⟩ : ∃ B, b.toNat = B := ⟨_, rfl⟩
    have HB := Lib.hid hB
    rw [hB] at h hb ⊢
    clear hB
    have h32 : B ≤ 31 := by omega
    by_cases hop : op = 12
    · subst hop
      go_enter Tryd.func43, Tryd.ntmps43
      go_wp2
      go_loop [7, 8] (fun x i => ∃ j m : Nat, j ≤ B ∧ i = .int .u32 j ∧ x = .int .u64 m ∧ m < 4294967296 ∧ Hid (m = shN true a.toNat j)) (fun _ i => B - (intOf i).toNat)
      case atStart => exact ⟨0, a.toNat, by omega, rfl, rfl, ha, (shN_zero true a).symm⟩
      case round =>
        obtain ⟨j, m, hj, rfl, rfl, hlt, hr⟩ := hrel
        by_cases hjk : j < B
        · go_wp2
          go_round
          case rel => exact ⟨j + 1, 2 * m % 4294967296, by omega, by go_num, by go_num, by omega, by rw [hr.out]; exact (shN_up a.toNat j).symm⟩
          case measure => simp [intOf]; omega
        · go_wp2
          go_returns
          refine ⟨ret_int ?_, rfl⟩
          rw [hr.out, show j = B by omega]
          unfold shiftW shN
          rw [HB.out, if_neg h, if_pos rfl, if_pos rfl]
          rw [UInt32.toNat_ofNat']
    · have hopB : (op == 12) = false := by simpa using hop
      have HO := Lib.hid hop; clear hop
      go_enter Tryd.func43, Tryd.ntmps43
      go_wp2
      go_loop [7, 8] (fun x i => ∃ j m : Nat, j ≤ B ∧ i = .int .u32 j ∧ x = .int .u64 m ∧ m < 4294967296 ∧ Hid (m = shN false a.toNat j)) (fun _ i => B - (intOf i).toNat)
      case atStart => exact ⟨0, a.toNat, by omega, rfl, rfl, ha, (shN_zero false a).symm⟩
      case round =>
        obtain ⟨j, m, hj, rfl, rfl, hlt, hr⟩ := hrel
        by_cases hjk : j < B
        · go_wp2
          go_round
          case rel => exact ⟨j + 1, m / 2, by omega, by go_num, by go_num, by omega, by rw [hr.out]; exact (shN_down a.toNat j).symm⟩
          case measure => simp [intOf]; omega
        · go_wp2
          go_returns
          refine ⟨ret_int ?_, rfl⟩
          rw [hr.out, show j = B by omega]
          unfold shiftW shN
          rw [HB.out, if_neg h, if_neg HO.out, if_neg (by decide)]
          rw [UInt32.toNat_ofNat', Nat.mod_eq_of_lt (Nat.lt_of_le_of_lt (Nat.div_le_self _ _) ha)]
end Go.Proofs.YtepgnnlihnajeaaDoor
