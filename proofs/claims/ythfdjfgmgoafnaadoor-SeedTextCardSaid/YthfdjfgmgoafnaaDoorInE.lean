/- Layer 7, the document's names and fields of operations, walked. -/
import Derived.Test.YthfdjfgmgoafnaaDoorIn
import Derived.Test.YthfdjfgmgoafnaaDoorChecked
namespace Go.Proofs.YthfdjfgmgoafnaaDoor
open Go.RowKit

/-- Which fields an operation has. -/
def partL (a b : Bool) (c : Int) : List UInt8 := (if a then [97] else []) ++ ((if b then [98] else []) ++ (if c = 1 then [99] else if c = 2 then [114] else []))
def partsI (op : Int) : List UInt8 := if isOp op then partL (shA op) (shB op) (shC op) else [63]

set_option maxRecDepth 100000 in
set_option maxHeartbeats 4000000 in
theorem refName_none (op : Int) (w : World) (h : ¬ isOp op) :
    Calls Tryd.prog 54 #[.int .i64 op] w fun e w' => e = .returned (.string ⟨#[]⟩) ∧ w = w' := by
  unfold isOp at h
  have q1 : (op == 1) = false := by rw [beq_eq_false_iff_ne]; omega
  have q2 : (op == 2) = false := by rw [beq_eq_false_iff_ne]; omega
  have q3 : (op == 3) = false := by rw [beq_eq_false_iff_ne]; omega
  have q4 : (op == 4) = false := by rw [beq_eq_false_iff_ne]; omega
  have q5 : (op == 5) = false := by rw [beq_eq_false_iff_ne]; omega
  have q6 : (op == 6) = false := by rw [beq_eq_false_iff_ne]; omega
  have q7 : (op == 7) = false := by rw [beq_eq_false_iff_ne]; omega
  have q8 : (op == 8) = false := by rw [beq_eq_false_iff_ne]; omega
  have q9 : (op == 9) = false := by rw [beq_eq_false_iff_ne]; omega
  have q10 : (op == 10) = false := by rw [beq_eq_false_iff_ne]; omega
  have q11 : (op == 11) = false := by rw [beq_eq_false_iff_ne]; omega
  have q12 : (op == 12) = false := by rw [beq_eq_false_iff_ne]; omega
  have q13 : (op == 13) = false := by rw [beq_eq_false_iff_ne]; omega
  have q14 : (op == 14) = false := by rw [beq_eq_false_iff_ne]; omega
  have q15 : (op == 15) = false := by rw [beq_eq_false_iff_ne]; omega
  have q16 : (op == 16) = false := by rw [beq_eq_false_iff_ne]; omega
  have q17 : (op == 17) = false := by rw [beq_eq_false_iff_ne]; omega
  have q18 : (op == 18) = false := by rw [beq_eq_false_iff_ne]; omega
  have q19 : (op == 19) = false := by rw [beq_eq_false_iff_ne]; omega
  have q20 : (op == 20) = false := by rw [beq_eq_false_iff_ne]; omega
  have q21 : (op == 21) = false := by rw [beq_eq_false_iff_ne]; omega
  have q22 : (op == 22) = false := by rw [beq_eq_false_iff_ne]; omega
  have q23 : (op == 23) = false := by rw [beq_eq_false_iff_ne]; omega
  have q24 : (op == 24) = false := by rw [beq_eq_false_iff_ne]; omega
  have q25 : (op == 25) = false := by rw [beq_eq_false_iff_ne]; omega
  have q26 : (op == 26) = false := by rw [beq_eq_false_iff_ne]; omega
  have q27 : (op == 27) = false := by rw [beq_eq_false_iff_ne]; omega
  clear h
  go_enter Tryd.func54, Tryd.ntmps54
  go_wp2_with fail
  go_returns
  exact ⟨rfl, rfl⟩

set_option maxRecDepth 100000 in
set_option maxHeartbeats 4000000 in
theorem refParts_none (op : Int) (w : World) (h : ¬ isOp op) :
    Calls Tryd.prog 61 #[.int .i64 op] w fun e w' => e = .returned (.string ⟨#[63]⟩) ∧ w = w' := by
  unfold isOp at h
  have q1 : (op == 1) = false := by rw [beq_eq_false_iff_ne]; omega
  have q2 : (op == 2) = false := by rw [beq_eq_false_iff_ne]; omega
  have q3 : (op == 3) = false := by rw [beq_eq_false_iff_ne]; omega
  have q4 : (op == 4) = false := by rw [beq_eq_false_iff_ne]; omega
  have q5 : (op == 5) = false := by rw [beq_eq_false_iff_ne]; omega
  have q6 : (op == 6) = false := by rw [beq_eq_false_iff_ne]; omega
  have q7 : (op == 7) = false := by rw [beq_eq_false_iff_ne]; omega
  have q8 : (op == 8) = false := by rw [beq_eq_false_iff_ne]; omega
  have q9 : (op == 9) = false := by rw [beq_eq_false_iff_ne]; omega
  have q10 : (op == 10) = false := by rw [beq_eq_false_iff_ne]; omega
  have q11 : (op == 11) = false := by rw [beq_eq_false_iff_ne]; omega
  have q12 : (op == 12) = false := by rw [beq_eq_false_iff_ne]; omega
  have q13 : (op == 13) = false := by rw [beq_eq_false_iff_ne]; omega
  have q14 : (op == 14) = false := by rw [beq_eq_false_iff_ne]; omega
  have q15 : (op == 15) = false := by rw [beq_eq_false_iff_ne]; omega
  have q16 : (op == 16) = false := by rw [beq_eq_false_iff_ne]; omega
  have q17 : (op == 17) = false := by rw [beq_eq_false_iff_ne]; omega
  have q18 : (op == 18) = false := by rw [beq_eq_false_iff_ne]; omega
  have q19 : (op == 19) = false := by rw [beq_eq_false_iff_ne]; omega
  have q20 : (op == 20) = false := by rw [beq_eq_false_iff_ne]; omega
  have q21 : (op == 21) = false := by rw [beq_eq_false_iff_ne]; omega
  have q22 : (op == 22) = false := by rw [beq_eq_false_iff_ne]; omega
  have q23 : (op == 23) = false := by rw [beq_eq_false_iff_ne]; omega
  have q24 : (op == 24) = false := by rw [beq_eq_false_iff_ne]; omega
  have q25 : (op == 25) = false := by rw [beq_eq_false_iff_ne]; omega
  have q26 : (op == 26) = false := by rw [beq_eq_false_iff_ne]; omega
  have q27 : (op == 27) = false := by rw [beq_eq_false_iff_ne]; omega
  have hc : op < 4 ∨ (4 ≤ op ∧ 15 < op) := by omega
  clear h
  rcases hc with h1 | ⟨h1, h2⟩
  all_goals
    go_enter Tryd.func61, Tryd.ntmps61
    go_wp2_with fail
    go_returns
    exact ⟨rfl, rfl⟩

set_option maxRecDepth 100000 in
set_option maxHeartbeats 2000000 in
theorem refName_1 (w : World) : Calls Tryd.prog 54 #[.int .i64 1] w fun e w' => e = .returned (.string ⟨#[108, 105]⟩) ∧ w = w' := by
  go_enter Tryd.func54, Tryd.ntmps54
  go_wp2_with fail
  go_returns
  exact ⟨rfl, rfl⟩
set_option maxRecDepth 100000 in
set_option maxHeartbeats 2000000 in
theorem refParts_1 (w : World) : Calls Tryd.prog 61 #[.int .i64 1] w fun e w' => e = .returned (.string ⟨#[97, 99]⟩) ∧ w = w' := by
  go_enter Tryd.func61, Tryd.ntmps61
  go_wp2_with fail
  go_returns
  exact ⟨rfl, rfl⟩

set_option maxRecDepth 100000 in
set_option maxHeartbeats 2000000 in
theorem refName_2 (w : World) : Calls Tryd.prog 54 #[.int .i64 2] w fun e w' => e = .returned (.string ⟨#[108, 117, 105]⟩) ∧ w = w' := by
  go_enter Tryd.func54, Tryd.ntmps54
  go_wp2_with fail
  go_returns
  exact ⟨rfl, rfl⟩
set_option maxRecDepth 100000 in
set_option maxHeartbeats 2000000 in
theorem refParts_2 (w : World) : Calls Tryd.prog 61 #[.int .i64 2] w fun e w' => e = .returned (.string ⟨#[97, 99]⟩) ∧ w = w' := by
  go_enter Tryd.func61, Tryd.ntmps61
  go_wp2_with fail
  go_returns
  exact ⟨rfl, rfl⟩

set_option maxRecDepth 100000 in
set_option maxHeartbeats 2000000 in
theorem refName_3 (w : World) : Calls Tryd.prog 54 #[.int .i64 3] w fun e w' => e = .returned (.string ⟨#[109, 111, 118]⟩) ∧ w = w' := by
  go_enter Tryd.func54, Tryd.ntmps54
  go_wp2_with fail
  go_returns
  exact ⟨rfl, rfl⟩
set_option maxRecDepth 100000 in
set_option maxHeartbeats 2000000 in
theorem refParts_3 (w : World) : Calls Tryd.prog 61 #[.int .i64 3] w fun e w' => e = .returned (.string ⟨#[97, 98]⟩) ∧ w = w' := by
  go_enter Tryd.func61, Tryd.ntmps61
  go_wp2_with fail
  go_returns
  exact ⟨rfl, rfl⟩

set_option maxRecDepth 100000 in
set_option maxHeartbeats 2000000 in
theorem refName_4 (w : World) : Calls Tryd.prog 54 #[.int .i64 4] w fun e w' => e = .returned (.string ⟨#[97, 100, 100]⟩) ∧ w = w' := by
  go_enter Tryd.func54, Tryd.ntmps54
  go_wp2_with fail
  go_returns
  exact ⟨rfl, rfl⟩
set_option maxRecDepth 100000 in
set_option maxHeartbeats 2000000 in
theorem refParts_4 (w : World) : Calls Tryd.prog 61 #[.int .i64 4] w fun e w' => e = .returned (.string ⟨#[97, 98, 114]⟩) ∧ w = w' := by
  go_enter Tryd.func61, Tryd.ntmps61
  go_wp2_with fail
  go_returns
  exact ⟨rfl, rfl⟩

set_option maxRecDepth 100000 in
set_option maxHeartbeats 2000000 in
theorem refName_5 (w : World) : Calls Tryd.prog 54 #[.int .i64 5] w fun e w' => e = .returned (.string ⟨#[115, 117, 98]⟩) ∧ w = w' := by
  go_enter Tryd.func54, Tryd.ntmps54
  go_wp2_with fail
  go_returns
  exact ⟨rfl, rfl⟩
set_option maxRecDepth 100000 in
set_option maxHeartbeats 2000000 in
theorem refParts_5 (w : World) : Calls Tryd.prog 61 #[.int .i64 5] w fun e w' => e = .returned (.string ⟨#[97, 98, 114]⟩) ∧ w = w' := by
  go_enter Tryd.func61, Tryd.ntmps61
  go_wp2_with fail
  go_returns
  exact ⟨rfl, rfl⟩

set_option maxRecDepth 100000 in
set_option maxHeartbeats 2000000 in
theorem refName_6 (w : World) : Calls Tryd.prog 54 #[.int .i64 6] w fun e w' => e = .returned (.string ⟨#[109, 117, 108]⟩) ∧ w = w' := by
  go_enter Tryd.func54, Tryd.ntmps54
  go_wp2_with fail
  go_returns
  exact ⟨rfl, rfl⟩
set_option maxRecDepth 100000 in
set_option maxHeartbeats 2000000 in
theorem refParts_6 (w : World) : Calls Tryd.prog 61 #[.int .i64 6] w fun e w' => e = .returned (.string ⟨#[97, 98, 114]⟩) ∧ w = w' := by
  go_enter Tryd.func61, Tryd.ntmps61
  go_wp2_with fail
  go_returns
  exact ⟨rfl, rfl⟩

set_option maxRecDepth 100000 in
set_option maxHeartbeats 2000000 in
theorem refName_7 (w : World) : Calls Tryd.prog 54 #[.int .i64 7] w fun e w' => e = .returned (.string ⟨#[100, 105, 118]⟩) ∧ w = w' := by
  go_enter Tryd.func54, Tryd.ntmps54
  go_wp2_with fail
  go_returns
  exact ⟨rfl, rfl⟩
set_option maxRecDepth 100000 in
set_option maxHeartbeats 2000000 in
theorem refParts_7 (w : World) : Calls Tryd.prog 61 #[.int .i64 7] w fun e w' => e = .returned (.string ⟨#[97, 98, 114]⟩) ∧ w = w' := by
  go_enter Tryd.func61, Tryd.ntmps61
  go_wp2_with fail
  go_returns
  exact ⟨rfl, rfl⟩

set_option maxRecDepth 100000 in
set_option maxHeartbeats 2000000 in
theorem refName_8 (w : World) : Calls Tryd.prog 54 #[.int .i64 8] w fun e w' => e = .returned (.string ⟨#[109, 111, 100]⟩) ∧ w = w' := by
  go_enter Tryd.func54, Tryd.ntmps54
  go_wp2_with fail
  go_returns
  exact ⟨rfl, rfl⟩
set_option maxRecDepth 100000 in
set_option maxHeartbeats 2000000 in
theorem refParts_8 (w : World) : Calls Tryd.prog 61 #[.int .i64 8] w fun e w' => e = .returned (.string ⟨#[97, 98, 114]⟩) ∧ w = w' := by
  go_enter Tryd.func61, Tryd.ntmps61
  go_wp2_with fail
  go_returns
  exact ⟨rfl, rfl⟩

set_option maxRecDepth 100000 in
set_option maxHeartbeats 2000000 in
theorem refName_9 (w : World) : Calls Tryd.prog 54 #[.int .i64 9] w fun e w' => e = .returned (.string ⟨#[97, 110, 100]⟩) ∧ w = w' := by
  go_enter Tryd.func54, Tryd.ntmps54
  go_wp2_with fail
  go_returns
  exact ⟨rfl, rfl⟩
set_option maxRecDepth 100000 in
set_option maxHeartbeats 2000000 in
theorem refParts_9 (w : World) : Calls Tryd.prog 61 #[.int .i64 9] w fun e w' => e = .returned (.string ⟨#[97, 98, 114]⟩) ∧ w = w' := by
  go_enter Tryd.func61, Tryd.ntmps61
  go_wp2_with fail
  go_returns
  exact ⟨rfl, rfl⟩

set_option maxRecDepth 100000 in
set_option maxHeartbeats 2000000 in
theorem refName_10 (w : World) : Calls Tryd.prog 54 #[.int .i64 10] w fun e w' => e = .returned (.string ⟨#[111, 114]⟩) ∧ w = w' := by
  go_enter Tryd.func54, Tryd.ntmps54
  go_wp2_with fail
  go_returns
  exact ⟨rfl, rfl⟩
set_option maxRecDepth 100000 in
set_option maxHeartbeats 2000000 in
theorem refParts_10 (w : World) : Calls Tryd.prog 61 #[.int .i64 10] w fun e w' => e = .returned (.string ⟨#[97, 98, 114]⟩) ∧ w = w' := by
  go_enter Tryd.func61, Tryd.ntmps61
  go_wp2_with fail
  go_returns
  exact ⟨rfl, rfl⟩

set_option maxRecDepth 100000 in
set_option maxHeartbeats 2000000 in
theorem refName_11 (w : World) : Calls Tryd.prog 54 #[.int .i64 11] w fun e w' => e = .returned (.string ⟨#[120, 111, 114]⟩) ∧ w = w' := by
  go_enter Tryd.func54, Tryd.ntmps54
  go_wp2_with fail
  go_returns
  exact ⟨rfl, rfl⟩
set_option maxRecDepth 100000 in
set_option maxHeartbeats 2000000 in
theorem refParts_11 (w : World) : Calls Tryd.prog 61 #[.int .i64 11] w fun e w' => e = .returned (.string ⟨#[97, 98, 114]⟩) ∧ w = w' := by
  go_enter Tryd.func61, Tryd.ntmps61
  go_wp2_with fail
  go_returns
  exact ⟨rfl, rfl⟩

set_option maxRecDepth 100000 in
set_option maxHeartbeats 2000000 in
theorem refName_12 (w : World) : Calls Tryd.prog 54 #[.int .i64 12] w fun e w' => e = .returned (.string ⟨#[115, 104, 108]⟩) ∧ w = w' := by
  go_enter Tryd.func54, Tryd.ntmps54
  go_wp2_with fail
  go_returns
  exact ⟨rfl, rfl⟩
set_option maxRecDepth 100000 in
set_option maxHeartbeats 2000000 in
theorem refParts_12 (w : World) : Calls Tryd.prog 61 #[.int .i64 12] w fun e w' => e = .returned (.string ⟨#[97, 98, 114]⟩) ∧ w = w' := by
  go_enter Tryd.func61, Tryd.ntmps61
  go_wp2_with fail
  go_returns
  exact ⟨rfl, rfl⟩

set_option maxRecDepth 100000 in
set_option maxHeartbeats 2000000 in
theorem refName_13 (w : World) : Calls Tryd.prog 54 #[.int .i64 13] w fun e w' => e = .returned (.string ⟨#[115, 104, 114]⟩) ∧ w = w' := by
  go_enter Tryd.func54, Tryd.ntmps54
  go_wp2_with fail
  go_returns
  exact ⟨rfl, rfl⟩
set_option maxRecDepth 100000 in
set_option maxHeartbeats 2000000 in
theorem refParts_13 (w : World) : Calls Tryd.prog 61 #[.int .i64 13] w fun e w' => e = .returned (.string ⟨#[97, 98, 114]⟩) ∧ w = w' := by
  go_enter Tryd.func61, Tryd.ntmps61
  go_wp2_with fail
  go_returns
  exact ⟨rfl, rfl⟩

set_option maxRecDepth 100000 in
set_option maxHeartbeats 2000000 in
theorem refName_14 (w : World) : Calls Tryd.prog 54 #[.int .i64 14] w fun e w' => e = .returned (.string ⟨#[108, 116]⟩) ∧ w = w' := by
  go_enter Tryd.func54, Tryd.ntmps54
  go_wp2_with fail
  go_returns
  exact ⟨rfl, rfl⟩
set_option maxRecDepth 100000 in
set_option maxHeartbeats 2000000 in
theorem refParts_14 (w : World) : Calls Tryd.prog 61 #[.int .i64 14] w fun e w' => e = .returned (.string ⟨#[97, 98, 114]⟩) ∧ w = w' := by
  go_enter Tryd.func61, Tryd.ntmps61
  go_wp2_with fail
  go_returns
  exact ⟨rfl, rfl⟩

set_option maxRecDepth 100000 in
set_option maxHeartbeats 2000000 in
theorem refName_15 (w : World) : Calls Tryd.prog 54 #[.int .i64 15] w fun e w' => e = .returned (.string ⟨#[101, 113]⟩) ∧ w = w' := by
  go_enter Tryd.func54, Tryd.ntmps54
  go_wp2_with fail
  go_returns
  exact ⟨rfl, rfl⟩
set_option maxRecDepth 100000 in
set_option maxHeartbeats 2000000 in
theorem refParts_15 (w : World) : Calls Tryd.prog 61 #[.int .i64 15] w fun e w' => e = .returned (.string ⟨#[97, 98, 114]⟩) ∧ w = w' := by
  go_enter Tryd.func61, Tryd.ntmps61
  go_wp2_with fail
  go_returns
  exact ⟨rfl, rfl⟩

set_option maxRecDepth 100000 in
set_option maxHeartbeats 2000000 in
theorem refName_16 (w : World) : Calls Tryd.prog 54 #[.int .i64 16] w fun e w' => e = .returned (.string ⟨#[108, 100]⟩) ∧ w = w' := by
  go_enter Tryd.func54, Tryd.ntmps54
  go_wp2_with fail
  go_returns
  exact ⟨rfl, rfl⟩
set_option maxRecDepth 100000 in
set_option maxHeartbeats 2000000 in
theorem refParts_16 (w : World) : Calls Tryd.prog 61 #[.int .i64 16] w fun e w' => e = .returned (.string ⟨#[97, 98, 99]⟩) ∧ w = w' := by
  go_enter Tryd.func61, Tryd.ntmps61
  go_wp2_with fail
  go_returns
  exact ⟨rfl, rfl⟩

set_option maxRecDepth 100000 in
set_option maxHeartbeats 2000000 in
theorem refName_17 (w : World) : Calls Tryd.prog 54 #[.int .i64 17] w fun e w' => e = .returned (.string ⟨#[115, 116]⟩) ∧ w = w' := by
  go_enter Tryd.func54, Tryd.ntmps54
  go_wp2_with fail
  go_returns
  exact ⟨rfl, rfl⟩
set_option maxRecDepth 100000 in
set_option maxHeartbeats 2000000 in
theorem refParts_17 (w : World) : Calls Tryd.prog 61 #[.int .i64 17] w fun e w' => e = .returned (.string ⟨#[97, 98, 99]⟩) ∧ w = w' := by
  go_enter Tryd.func61, Tryd.ntmps61
  go_wp2_with fail
  go_returns
  exact ⟨rfl, rfl⟩

set_option maxRecDepth 100000 in
set_option maxHeartbeats 2000000 in
theorem refName_18 (w : World) : Calls Tryd.prog 54 #[.int .i64 18] w fun e w' => e = .returned (.string ⟨#[106, 109, 112]⟩) ∧ w = w' := by
  go_enter Tryd.func54, Tryd.ntmps54
  go_wp2_with fail
  go_returns
  exact ⟨rfl, rfl⟩
set_option maxRecDepth 100000 in
set_option maxHeartbeats 2000000 in
theorem refParts_18 (w : World) : Calls Tryd.prog 61 #[.int .i64 18] w fun e w' => e = .returned (.string ⟨#[99]⟩) ∧ w = w' := by
  go_enter Tryd.func61, Tryd.ntmps61
  go_wp2_with fail
  go_returns
  exact ⟨rfl, rfl⟩

set_option maxRecDepth 100000 in
set_option maxHeartbeats 2000000 in
theorem refName_19 (w : World) : Calls Tryd.prog 54 #[.int .i64 19] w fun e w' => e = .returned (.string ⟨#[106, 122]⟩) ∧ w = w' := by
  go_enter Tryd.func54, Tryd.ntmps54
  go_wp2_with fail
  go_returns
  exact ⟨rfl, rfl⟩
set_option maxRecDepth 100000 in
set_option maxHeartbeats 2000000 in
theorem refParts_19 (w : World) : Calls Tryd.prog 61 #[.int .i64 19] w fun e w' => e = .returned (.string ⟨#[97, 99]⟩) ∧ w = w' := by
  go_enter Tryd.func61, Tryd.ntmps61
  go_wp2_with fail
  go_returns
  exact ⟨rfl, rfl⟩

set_option maxRecDepth 100000 in
set_option maxHeartbeats 2000000 in
theorem refName_20 (w : World) : Calls Tryd.prog 54 #[.int .i64 20] w fun e w' => e = .returned (.string ⟨#[106, 110, 122]⟩) ∧ w = w' := by
  go_enter Tryd.func54, Tryd.ntmps54
  go_wp2_with fail
  go_returns
  exact ⟨rfl, rfl⟩
set_option maxRecDepth 100000 in
set_option maxHeartbeats 2000000 in
theorem refParts_20 (w : World) : Calls Tryd.prog 61 #[.int .i64 20] w fun e w' => e = .returned (.string ⟨#[97, 99]⟩) ∧ w = w' := by
  go_enter Tryd.func61, Tryd.ntmps61
  go_wp2_with fail
  go_returns
  exact ⟨rfl, rfl⟩

set_option maxRecDepth 100000 in
set_option maxHeartbeats 2000000 in
theorem refName_21 (w : World) : Calls Tryd.prog 54 #[.int .i64 21] w fun e w' => e = .returned (.string ⟨#[99, 97, 108, 108]⟩) ∧ w = w' := by
  go_enter Tryd.func54, Tryd.ntmps54
  go_wp2_with fail
  go_returns
  exact ⟨rfl, rfl⟩
set_option maxRecDepth 100000 in
set_option maxHeartbeats 2000000 in
theorem refParts_21 (w : World) : Calls Tryd.prog 61 #[.int .i64 21] w fun e w' => e = .returned (.string ⟨#[97, 99]⟩) ∧ w = w' := by
  go_enter Tryd.func61, Tryd.ntmps61
  go_wp2_with fail
  go_returns
  exact ⟨rfl, rfl⟩

set_option maxRecDepth 100000 in
set_option maxHeartbeats 2000000 in
theorem refName_22 (w : World) : Calls Tryd.prog 54 #[.int .i64 22] w fun e w' => e = .returned (.string ⟨#[114, 101, 116]⟩) ∧ w = w' := by
  go_enter Tryd.func54, Tryd.ntmps54
  go_wp2_with fail
  go_returns
  exact ⟨rfl, rfl⟩
set_option maxRecDepth 100000 in
set_option maxHeartbeats 2000000 in
theorem refParts_22 (w : World) : Calls Tryd.prog 61 #[.int .i64 22] w fun e w' => e = .returned (.string ⟨#[97]⟩) ∧ w = w' := by
  go_enter Tryd.func61, Tryd.ntmps61
  go_wp2_with fail
  go_returns
  exact ⟨rfl, rfl⟩

set_option maxRecDepth 100000 in
set_option maxHeartbeats 2000000 in
theorem refName_23 (w : World) : Calls Tryd.prog 54 #[.int .i64 23] w fun e w' => e = .returned (.string ⟨#[103, 101, 116]⟩) ∧ w = w' := by
  go_enter Tryd.func54, Tryd.ntmps54
  go_wp2_with fail
  go_returns
  exact ⟨rfl, rfl⟩
set_option maxRecDepth 100000 in
set_option maxHeartbeats 2000000 in
theorem refParts_23 (w : World) : Calls Tryd.prog 61 #[.int .i64 23] w fun e w' => e = .returned (.string ⟨#[97]⟩) ∧ w = w' := by
  go_enter Tryd.func61, Tryd.ntmps61
  go_wp2_with fail
  go_returns
  exact ⟨rfl, rfl⟩

set_option maxRecDepth 100000 in
set_option maxHeartbeats 2000000 in
theorem refName_24 (w : World) : Calls Tryd.prog 54 #[.int .i64 24] w fun e w' => e = .returned (.string ⟨#[112, 117, 116]⟩) ∧ w = w' := by
  go_enter Tryd.func54, Tryd.ntmps54
  go_wp2_with fail
  go_returns
  exact ⟨rfl, rfl⟩
set_option maxRecDepth 100000 in
set_option maxHeartbeats 2000000 in
theorem refParts_24 (w : World) : Calls Tryd.prog 61 #[.int .i64 24] w fun e w' => e = .returned (.string ⟨#[97]⟩) ∧ w = w' := by
  go_enter Tryd.func61, Tryd.ntmps61
  go_wp2_with fail
  go_returns
  exact ⟨rfl, rfl⟩

set_option maxRecDepth 100000 in
set_option maxHeartbeats 2000000 in
theorem refName_25 (w : World) : Calls Tryd.prog 54 #[.int .i64 25] w fun e w' => e = .returned (.string ⟨#[99, 104, 107]⟩) ∧ w = w' := by
  go_enter Tryd.func54, Tryd.ntmps54
  go_wp2_with fail
  go_returns
  exact ⟨rfl, rfl⟩
set_option maxRecDepth 100000 in
set_option maxHeartbeats 2000000 in
theorem refParts_25 (w : World) : Calls Tryd.prog 61 #[.int .i64 25] w fun e w' => e = .returned (.string ⟨#[97, 99]⟩) ∧ w = w' := by
  go_enter Tryd.func61, Tryd.ntmps61
  go_wp2_with fail
  go_returns
  exact ⟨rfl, rfl⟩

set_option maxRecDepth 100000 in
set_option maxHeartbeats 2000000 in
theorem refName_26 (w : World) : Calls Tryd.prog 54 #[.int .i64 26] w fun e w' => e = .returned (.string ⟨#[104, 97, 108, 116]⟩) ∧ w = w' := by
  go_enter Tryd.func54, Tryd.ntmps54
  go_wp2_with fail
  go_returns
  exact ⟨rfl, rfl⟩
set_option maxRecDepth 100000 in
set_option maxHeartbeats 2000000 in
theorem refParts_26 (w : World) : Calls Tryd.prog 61 #[.int .i64 26] w fun e w' => e = .returned (.string ⟨#[]⟩) ∧ w = w' := by
  go_enter Tryd.func61, Tryd.ntmps61
  go_wp2_with fail
  go_returns
  exact ⟨rfl, rfl⟩

set_option maxRecDepth 100000 in
set_option maxHeartbeats 2000000 in
theorem refName_27 (w : World) : Calls Tryd.prog 54 #[.int .i64 27] w fun e w' => e = .returned (.string ⟨#[108, 100, 99]⟩) ∧ w = w' := by
  go_enter Tryd.func54, Tryd.ntmps54
  go_wp2_with fail
  go_returns
  exact ⟨rfl, rfl⟩
set_option maxRecDepth 100000 in
set_option maxHeartbeats 2000000 in
theorem refParts_27 (w : World) : Calls Tryd.prog 61 #[.int .i64 27] w fun e w' => e = .returned (.string ⟨#[97, 98, 99]⟩) ∧ w = w' := by
  go_enter Tryd.func61, Tryd.ntmps61
  go_wp2_with fail
  go_returns
  exact ⟨rfl, rfl⟩

theorem ref_Name (op : Int) (w : World) :
    Calls Tryd.prog 54 #[.int .i64 op] w fun e w' => e = .returned (.string ⟨(nameI op).toArray⟩) ∧ w = w' := by
  by_cases h : isOp op
  · have hc : op = 1 ∨ op = 2 ∨ op = 3 ∨ op = 4 ∨ op = 5 ∨ op = 6 ∨ op = 7 ∨ op = 8 ∨ op = 9 ∨ op = 10 ∨ op = 11 ∨ op = 12 ∨ op = 13 ∨ op = 14 ∨ op = 15 ∨ op = 16 ∨ op = 17 ∨ op = 18 ∨ op = 19 ∨ op = 20 ∨ op = 21 ∨ op = 22 ∨ op = 23 ∨ op = 24 ∨ op = 25 ∨ op = 26 ∨ op = 27 := by unfold isOp at h; omega
    clear h
    rcases hc with rfl | rfl | rfl | rfl | rfl | rfl | rfl | rfl | rfl | rfl | rfl | rfl | rfl | rfl | rfl | rfl | rfl | rfl | rfl | rfl | rfl | rfl | rfl | rfl | rfl | rfl | rfl
    · exact refName_1 w
    · exact refName_2 w
    · exact refName_3 w
    · exact refName_4 w
    · exact refName_5 w
    · exact refName_6 w
    · exact refName_7 w
    · exact refName_8 w
    · exact refName_9 w
    · exact refName_10 w
    · exact refName_11 w
    · exact refName_12 w
    · exact refName_13 w
    · exact refName_14 w
    · exact refName_15 w
    · exact refName_16 w
    · exact refName_17 w
    · exact refName_18 w
    · exact refName_19 w
    · exact refName_20 w
    · exact refName_21 w
    · exact refName_22 w
    · exact refName_23 w
    · exact refName_24 w
    · exact refName_25 w
    · exact refName_26 w
    · exact refName_27 w
  · unfold nameI
    rw [if_neg h]
    exact refName_none op w h
theorem ref_Parts (op : Int) (w : World) :
    Calls Tryd.prog 61 #[.int .i64 op] w fun e w' => e = .returned (.string ⟨(partsI op).toArray⟩) ∧ w = w' := by
  by_cases h : isOp op
  · have hc : op = 1 ∨ op = 2 ∨ op = 3 ∨ op = 4 ∨ op = 5 ∨ op = 6 ∨ op = 7 ∨ op = 8 ∨ op = 9 ∨ op = 10 ∨ op = 11 ∨ op = 12 ∨ op = 13 ∨ op = 14 ∨ op = 15 ∨ op = 16 ∨ op = 17 ∨ op = 18 ∨ op = 19 ∨ op = 20 ∨ op = 21 ∨ op = 22 ∨ op = 23 ∨ op = 24 ∨ op = 25 ∨ op = 26 ∨ op = 27 := by unfold isOp at h; omega
    clear h
    rcases hc with rfl | rfl | rfl | rfl | rfl | rfl | rfl | rfl | rfl | rfl | rfl | rfl | rfl | rfl | rfl | rfl | rfl | rfl | rfl | rfl | rfl | rfl | rfl | rfl | rfl | rfl | rfl
    · exact refParts_1 w
    · exact refParts_2 w
    · exact refParts_3 w
    · exact refParts_4 w
    · exact refParts_5 w
    · exact refParts_6 w
    · exact refParts_7 w
    · exact refParts_8 w
    · exact refParts_9 w
    · exact refParts_10 w
    · exact refParts_11 w
    · exact refParts_12 w
    · exact refParts_13 w
    · exact refParts_14 w
    · exact refParts_15 w
    · exact refParts_16 w
    · exact refParts_17 w
    · exact refParts_18 w
    · exact refParts_19 w
    · exact refParts_20 w
    · exact refParts_21 w
    · exact refParts_22 w
    · exact refParts_23 w
    · exact refParts_24 w
    · exact refParts_25 w
    · exact refParts_26 w
    · exact refParts_27 w
  · unfold partsI
    rw [if_neg h]
    exact refParts_none op w h
end Go.Proofs.YthfdjfgmgoafnaaDoor
