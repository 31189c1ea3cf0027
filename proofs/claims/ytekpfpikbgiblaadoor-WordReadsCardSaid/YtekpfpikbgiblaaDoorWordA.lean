/- Layer 1 (word): the operations, walked. -/
import Derived.Test.YtekpfpikbgiblaaDoorChecked
import Derived.Test.YtekpfpikbgiblaaDoorInfo
import Derived.Test.YtekpfpikbgiblaaDoorPw
namespace Go.Proofs.YtekpfpikbgiblaaDoor
open Go.RowKit

theorem word_divide (op : Int) (a b : UInt32) (w : World) :
    Calls Tryd.prog 31 #[.int .i64 op, .int .u32 a.toNat, .int .u32 b.toNat] w fun e w' => e = .returned (.tuple #[.int .u32 (divideW op a b).1.toNat, .int .i64 (divideW op a b).2]) ∧ w = w' := by
  have ha := a.toNat_lt
  have hb := b.toNat_lt
  by_cases h0 : b.toNat = 0
  · have hz : (((b.toNat : Int)) == 0) = true := by simp [h0]
    have H0 := Lib.hid h0; clear h0
    go_enter Tryd.func31, Tryd.ntmps31
    go_wp2
    go_returns
    exact ⟨by simp [divideW, H0.out], rfl⟩
  · have hz : (((b.toNat : Int)) == 0) = false := by simp; omega
    have hz2 : (0 : Int) < b.toNat := by omega
    go_enter Tryd.func31, Tryd.ntmps31
    go_wp2
    all_goals go_returns
    all_goals refine ⟨?_, rfl⟩
    all_goals go_light
    · have h7 : op = 7 := by simpa using (by assumption : (op == 7) = true)
      exact ret_ints (by unfold divideW; rw [if_neg h0, if_pos h7, w_div']) (by unfold divideW; rw [if_neg h0, if_pos h7])
    · have h7 : ¬ op = 7 := by simpa using (by assumption : (op == 7) = false)
      exact ret_ints (by unfold divideW; rw [if_neg h0, if_neg h7, w_mod]) (by unfold divideW; rw [if_neg h0, if_neg h7])

theorem word_shift (op : Int) (a b : UInt32) (w : World) :
    Calls Tryd.prog 32 #[.int .i64 op, .int .u32 a.toNat, .int .u32 b.toNat] w fun e w' => e = .returned (.int .u32 (shiftW op a b).toNat) ∧ w = w' := by
  have ha := a.toNat_lt
  have hb := b.toNat_lt
  go_enter Tryd.func32, Tryd.ntmps32
  go_wp2
  all_goals go_returns
  all_goals refine ⟨?_, rfl⟩
  all_goals go_light
  all_goals refine ret_int ?_
  all_goals unfold shiftW
  · rw [if_pos (by omega)]; rfl
  · have h12 : op = 12 := by simpa using (by assumption : (op == 12) = true)
    rw [if_neg (by omega), if_pos h12, w_shl]
  · have h12 : ¬ op = 12 := by simpa using (by assumption : (op == 12) = false)
    rw [if_neg (by omega), if_neg h12, w_shr]

theorem word_compare (op : Int) (a b : UInt32) (w : World) :
    Calls Tryd.prog 33 #[.int .i64 op, .int .u32 a.toNat, .int .u32 b.toNat] w fun e w' => e = .returned (.int .u32 (compareW op a b).toNat) ∧ w = w' := by
  have ha := a.toNat_lt
  have hb := b.toNat_lt
  go_enter Tryd.func33, Tryd.ntmps33
  go_wp2
  all_goals go_returns
  all_goals refine ⟨?_, rfl⟩
  all_goals go_light
  all_goals refine ret_int ?_
  all_goals unfold compareW
  all_goals (try simp_all)
  all_goals first | (rw [if_pos (by omega)]; rfl) | (rw [if_neg (by omega)]; rfl)

theorem word_Apply (op : Int) (a b : UInt32) (w : World) :
    Calls Tryd.prog 25 #[.int .i64 op, .int .u32 a.toNat, .int .u32 b.toNat] w fun e w' => e = .returned (.tuple #[.int .u32 (applyW op a b).1.toNat, .int .i64 (applyW op a b).2]) ∧ w = w' := by
  go_enter Tryd.func25, Tryd.ntmps25
  go_wp2_with (first
    | (go_at_call 31; refine (word_divide _ _ _ _).mono ?_; rintro e w' ⟨rfl, rfl⟩)
    | (go_at_call 32; refine (word_shift _ _ _ _).mono ?_; rintro e w' ⟨rfl, rfl⟩)
    | (go_at_call 33; refine (word_compare _ _ _ _).mono ?_; rintro e w' ⟨rfl, rfl⟩))
  all_goals go_returns
  all_goals refine ⟨?_, rfl⟩
  all_goals go_light
  all_goals first
    | (rename (op == 4) = true => h
       obtain rfl : op = 4 := eq_of_beq h
       exact ret_ints (w_add a b).symm rfl)
    | (rename (op == 5) = true => h
       obtain rfl : op = 5 := eq_of_beq h
       exact ret_ints (w_sub a b).symm rfl)
    | (rename (op == 6) = true => h
       obtain rfl : op = 6 := eq_of_beq h
       exact ret_ints (w_mul a b).symm rfl)
    | (rename (op == 7) = true => h
       obtain rfl : op = 7 := eq_of_beq h
       exact ret_ints rfl rfl)
    | (rename (op == 8) = true => h
       obtain rfl : op = 8 := eq_of_beq h
       exact ret_ints rfl rfl)
    | (rename (op == 9) = true => h
       obtain rfl : op = 9 := eq_of_beq h
       exact ret_ints (w_and a b) rfl)
    | (rename (op == 10) = true => h
       obtain rfl : op = 10 := eq_of_beq h
       exact ret_ints (w_or a b) rfl)
    | (rename (op == 11) = true => h
       obtain rfl : op = 11 := eq_of_beq h
       exact ret_ints (w_xor a b) rfl)
    | (rename (op == 12) = true => h
       obtain rfl : op = 12 := eq_of_beq h
       exact ret_ints rfl rfl)
    | (rename (op == 13) = true => h
       obtain rfl : op = 13 := eq_of_beq h
       exact ret_ints rfl rfl)
    | (rename (op == 14) = true => h
       obtain rfl : op = 14 := eq_of_beq h
       exact ret_ints rfl rfl)
    | (rename (op == 15) = true => h
       obtain rfl : op = 15 := eq_of_beq h
       exact ret_ints rfl rfl)
    | (have e : applyW op a b = (0, 1) := by simp_all [applyW]
       rw [e]; rfl)
end Go.Proofs.YtekpfpikbgiblaaDoor
