/- Layer 1, the document's answer: what an operation makes of two words, walked. -/
import Derived.Test.YtepgnnlihnajeaaDoorInfo
import Derived.Test.YtepgnnlihnajeaaDoorPw
import Derived.Test.YtepgnnlihnajeaaDoorRefB
namespace Go.Proofs.YtepgnnlihnajeaaDoor
open Go.RowKit

set_option maxHeartbeats 800000 in
set_option maxRecDepth 100000 in
theorem ref_Apply (op : Int) (a b : UInt32) (w : World) :
    Calls Tryd.prog 40 #[.int .i64 op, .int .u32 a.toNat, .int .u32 b.toNat] w fun e w' => e = .returned (.tuple #[.int .u32 (applyW op a b).1.toNat, .int .i64 (applyW op a b).2]) ∧ Below w.heap.size w w' := by
  have ha := a.toNat_lt
  have hb := b.toNat_lt
  by_cases hop : op = 9 ∨ op = 10 ∨ op = 11
  · have HO := Lib.hid hop
    have HE : Hid (applyW op a b = (bitsW op a b, 0)) := by rcases hop with rfl | rfl | rfl <;> rfl
    rcases hop with rfl | rfl | rfl
    all_goals
      go_enter Tryd.func40, Tryd.ntmps40
      go_wp2_with (go_at_call 42; refine (ref_both _ HO.out _ _ _).mono ?_; rintro e w' ⟨rfl, hb1⟩)
      go_returns
      exact ⟨by rw [HE.out]; rfl, hb1⟩
  · have h1 : (op == 9) = false := by simp; omega
    have h2 : (op == 10) = false := by simp; omega
    have h3 : (op == 11) = false := by simp; omega
    clear hop
    by_cases h0 : b.toNat = 0
    · have hz : ((b.toNat : Int) == 0) = true := by simp [h0]
      have H0 := Lib.hid h0
      clear h0
      go_enter Tryd.func40, Tryd.ntmps40
      go_wp2_with (first
        | (go_at_call 43; refine (ref_shift _ _ _ _).mono ?_; rintro e w' ⟨rfl, rfl⟩)
        | (go_at_call 44; refine (ref_flag _ _).mono ?_; rintro e w' ⟨rfl, rfl⟩))
      all_goals go_returns
      all_goals refine ⟨?_, Below.refl _ _⟩
      all_goals go_light
      all_goals (try have h0 := H0.out)
      all_goals first
        | (rename (op == 4) = true => hq
           obtain rfl : op = 4 := eq_of_beq hq
           exact ret_ints (w_add a b).symm rfl)
        | (rename (op == 5) = true => hq
           obtain rfl : op = 5 := eq_of_beq hq
           exact ret_ints (by rw [show (applyW 5 a b).1 = a - b from rfl, w_sub]; omega) rfl)
        | (rename (op == 6) = true => hq
           obtain rfl : op = 6 := eq_of_beq hq
           exact ret_ints (w_mul' a b) rfl)
        | (rename (op == 7) = true => hq
           obtain rfl : op = 7 := eq_of_beq hq
           exact ret_ints (by rw [show applyW 7 a b = divideW 7 a b from rfl]; unfold divideW; first | (rw [if_pos (by omega)]; rfl) | (rw [if_neg (by omega), if_pos rfl, w_div', IntKind.wrap_u64]; omega))
             (by rw [show applyW 7 a b = divideW 7 a b from rfl]; unfold divideW; first | rw [if_pos (by omega)] | rw [if_neg (by omega), if_pos rfl]))
        | (rename (op == 8) = true => hq
           obtain rfl : op = 8 := eq_of_beq hq
           exact ret_ints (by rw [show applyW 8 a b = divideW 8 a b from rfl]; unfold divideW; first | (rw [if_pos (by omega)]; rfl) | (rw [if_neg (by omega), if_neg (by decide), w_mod]; have hm1 := Int.emod_nonneg (a.toNat : Int) (show (b.toNat : Int) ≠ 0 by omega); have hm2 := Int.emod_lt_of_pos (a.toNat : Int) hz2; first | omega | (rw [IntKind.wrap_u64]; omega)))
             (by rw [show applyW 8 a b = divideW 8 a b from rfl]; unfold divideW; first | rw [if_pos (by omega)] | rw [if_neg (by omega), if_neg (by decide)]))
        | (rename (op == 12) = true => hq
           obtain rfl : op = 12 := eq_of_beq hq
           exact ret_ints rfl rfl)
        | (rename (op == 13) = true => hq
           obtain rfl : op = 13 := eq_of_beq hq
           exact ret_ints rfl rfl)
        | (rename (op == 14) = true => hq
           obtain rfl : op = 14 := eq_of_beq hq
           exact ret_ints (by rw [show (applyW 14 a b).1 = compareW 14 a b from rfl]; unfold compareW; rw [if_pos rfl]; split <;> simp_all) rfl)
        | (rename (op == 15) = true => hq
           obtain rfl : op = 15 := eq_of_beq hq
           exact ret_ints (by rw [show (applyW 15 a b).1 = compareW 15 a b from rfl]; unfold compareW; rw [if_neg (by decide), if_pos rfl]; split <;> simp_all <;> omega) rfl)
        | (have e : applyW op a b = (0, 1) := by simp_all [applyW]
           rw [e]; rfl)
    · have hz : ((b.toNat : Int) == 0) = false := by simp; omega
      have hz2 : (0 : Int) < b.toNat := by omega
      go_enter Tryd.func40, Tryd.ntmps40
      go_wp2_with (first
        | (go_at_call 43; refine (ref_shift _ _ _ _).mono ?_; rintro e w' ⟨rfl, rfl⟩)
        | (go_at_call 44; refine (ref_flag _ _).mono ?_; rintro e w' ⟨rfl, rfl⟩))
      all_goals go_returns
      all_goals refine ⟨?_, Below.refl _ _⟩
      all_goals go_light
      all_goals first
        | (rename (op == 4) = true => hq
           obtain rfl : op = 4 := eq_of_beq hq
           exact ret_ints (w_add a b).symm rfl)
        | (rename (op == 5) = true => hq
           obtain rfl : op = 5 := eq_of_beq hq
           exact ret_ints (by rw [show (applyW 5 a b).1 = a - b from rfl, w_sub]; omega) rfl)
        | (rename (op == 6) = true => hq
           obtain rfl : op = 6 := eq_of_beq hq
           exact ret_ints (w_mul' a b) rfl)
        | (rename (op == 7) = true => hq
           obtain rfl : op = 7 := eq_of_beq hq
           exact ret_ints (by rw [show applyW 7 a b = divideW 7 a b from rfl]; unfold divideW; first | (rw [if_pos (by omega)]; rfl) | (rw [if_neg (by omega), if_pos rfl, w_div', IntKind.wrap_u64]; omega))
             (by rw [show applyW 7 a b = divideW 7 a b from rfl]; unfold divideW; first | rw [if_pos (by omega)] | rw [if_neg (by omega), if_pos rfl]))
        | (rename (op == 8) = true => hq
           obtain rfl : op = 8 := eq_of_beq hq
           exact ret_ints (by rw [show applyW 8 a b = divideW 8 a b from rfl]; unfold divideW; first | (rw [if_pos (by omega)]; rfl) | (rw [if_neg (by omega), if_neg (by decide), w_mod]; have hm1 := Int.emod_nonneg (a.toNat : Int) (show (b.toNat : Int) ≠ 0 by omega); have hm2 := Int.emod_lt_of_pos (a.toNat : Int) hz2; first | omega | (rw [IntKind.wrap_u64]; omega)))
             (by rw [show applyW 8 a b = divideW 8 a b from rfl]; unfold divideW; first | rw [if_pos (by omega)] | rw [if_neg (by omega), if_neg (by decide)]))
        | (rename (op == 12) = true => hq
           obtain rfl : op = 12 := eq_of_beq hq
           exact ret_ints rfl rfl)
        | (rename (op == 13) = true => hq
           obtain rfl : op = 13 := eq_of_beq hq
           exact ret_ints rfl rfl)
        | (rename (op == 14) = true => hq
           obtain rfl : op = 14 := eq_of_beq hq
           exact ret_ints (by rw [show (applyW 14 a b).1 = compareW 14 a b from rfl]; unfold compareW; rw [if_pos rfl]; split <;> simp_all) rfl)
        | (rename (op == 15) = true => hq
           obtain rfl : op = 15 := eq_of_beq hq
           exact ret_ints (by rw [show (applyW 15 a b).1 = compareW 15 a b from rfl]; unfold compareW; rw [if_neg (by decide), if_pos rfl]; split <;> simp_all <;> omega) rfl)
        | (have e : applyW op a b = (0, 1) := by simp_all [applyW]
           rw [e]; rfl)
end Go.Proofs.YtepgnnlihnajeaaDoor
