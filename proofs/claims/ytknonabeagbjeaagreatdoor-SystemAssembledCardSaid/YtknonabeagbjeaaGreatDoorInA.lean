/- Layer 7: the shapes of operations, walked. -/
import Derived.Test.YtknonabeagbjeaaGreatDoorIn
import Derived.Test.YtknonabeagbjeaaGreatDoorChecked
namespace Go.Proofs.YtknonabeagbjeaaGreatDoor
open Go.RowKit

set_option maxRecDepth 100000 in
set_option maxHeartbeats 4000000 in
theorem shapeOf_none (op : Int) (w : World) (h : ¬ isOp op) :
    Calls Tryz.prog 40 #[.int .i64 op] w fun e w' => e = .returned (.agg #[.string ⟨#[]⟩, .bool false, .bool false, .int .i64 0]) ∧ Below w.heap.size w w' := by
  unfold isOp at h
  have q1 : (op == 1) = false := by rw [beq_eq_false_iff_ne]; omega
  have q2 : (op == 2) = false := by rw [beq_eq_false_iff_ne]; omega
  have q3 : (op == 3) = false := by rw [beq_eq_false_iff_ne]; omega
  have q4 : (op == 4) = false := by rw [beq_eq_false_iff_ne]; omega
  have q5 : (op == 5) = false := by rw [beq_eq_false_iff_ne]; omega
  have q6 : (op == 6) = false := by rw [beq_eq_false_iff_ne]; omega
  have q7 : (op == 7) = false := by rw [beq_eq_false_iff_ne]; omega
  have q8 : (op == 8) = false := by rw [beq_eq_false_iff_ne]; omega
  have q9 : (op == 9) = false := by rw [beq_eq_false_iff_ne]; omega
  have q10 : (op == 10) = false := by rw [beq_eq_false_iff_ne]; omega
  have q11 : (op == 11) = false := by rw [beq_eq_false_iff_ne]; omega
  have q12 : (op == 12) = false := by rw [beq_eq_false_iff_ne]; omega
  have q13 : (op == 13) = false := by rw [beq_eq_false_iff_ne]; omega
  have q14 : (op == 14) = false := by rw [beq_eq_false_iff_ne]; omega
  have q15 : (op == 15) = false := by rw [beq_eq_false_iff_ne]; omega
  have q16 : (op == 16) = false := by rw [beq_eq_false_iff_ne]; omega
  have q17 : (op == 17) = false := by rw [beq_eq_false_iff_ne]; omega
  have q18 : (op == 18) = false := by rw [beq_eq_false_iff_ne]; omega
  have q19 : (op == 19) = false := by rw [beq_eq_false_iff_ne]; omega
  have q20 : (op == 20) = false := by rw [beq_eq_false_iff_ne]; omega
  have q21 : (op == 21) = false := by rw [beq_eq_false_iff_ne]; omega
  have q22 : (op == 22) = false := by rw [beq_eq_false_iff_ne]; omega
  have q23 : (op == 23) = false := by rw [beq_eq_false_iff_ne]; omega
  have q24 : (op == 24) = false := by rw [beq_eq_false_iff_ne]; omega
  have q25 : (op == 25) = false := by rw [beq_eq_false_iff_ne]; omega
  have q26 : (op == 26) = false := by rw [beq_eq_false_iff_ne]; omega
  have q27 : (op == 27) = false := by rw [beq_eq_false_iff_ne]; omega
  clear h
  go_enter Tryz.func40, Tryz.ntmps40
  go_wp2_with fail
  go_returns
  exact ⟨rfl, (Below.refl _ w).alloc (Nat.le_refl _) _⟩

set_option maxRecDepth 100000 in
set_option maxHeartbeats 2000000 in
theorem shapeOf_1 (w : World) :
    Calls Tryz.prog 40 #[.int .i64 1] w fun e w' => e = .returned (.agg #[.string ⟨#[108, 105]⟩, .bool true, .bool false, .int .i64 1]) ∧ Below w.heap.size w w' := by
  go_enter Tryz.func40, Tryz.ntmps40
  go_wp2_with fail
  go_returns
  exact ⟨rfl, (Below.refl _ w).alloc (Nat.le_refl _) _⟩

set_option maxRecDepth 100000 in
set_option maxHeartbeats 2000000 in
theorem shapeOf_2 (w : World) :
    Calls Tryz.prog 40 #[.int .i64 2] w fun e w' => e = .returned (.agg #[.string ⟨#[108, 117, 105]⟩, .bool true, .bool false, .int .i64 1]) ∧ Below w.heap.size w w' := by
  go_enter Tryz.func40, Tryz.ntmps40
  go_wp2_with fail
  go_returns
  exact ⟨rfl, (Below.refl _ w).alloc (Nat.le_refl _) _⟩

set_option maxRecDepth 100000 in
set_option maxHeartbeats 2000000 in
theorem shapeOf_3 (w : World) :
    Calls Tryz.prog 40 #[.int .i64 3] w fun e w' => e = .returned (.agg #[.string ⟨#[109, 111, 118]⟩, .bool true, .bool true, .int .i64 0]) ∧ Below w.heap.size w w' := by
  go_enter Tryz.func40, Tryz.ntmps40
  go_wp2_with fail
  go_returns
  exact ⟨rfl, (Below.refl _ w).alloc (Nat.le_refl _) _⟩

set_option maxRecDepth 100000 in
set_option maxHeartbeats 2000000 in
theorem shapeOf_4 (w : World) :
    Calls Tryz.prog 40 #[.int .i64 4] w fun e w' => e = .returned (.agg #[.string ⟨#[97, 100, 100]⟩, .bool true, .bool true, .int .i64 2]) ∧ Below w.heap.size w w' := by
  go_enter Tryz.func40, Tryz.ntmps40
  go_wp2_with fail
  go_returns
  exact ⟨rfl, (Below.refl _ w).alloc (Nat.le_refl _) _⟩

set_option maxRecDepth 100000 in
set_option maxHeartbeats 2000000 in
theorem shapeOf_5 (w : World) :
    Calls Tryz.prog 40 #[.int .i64 5] w fun e w' => e = .returned (.agg #[.string ⟨#[115, 117, 98]⟩, .bool true, .bool true, .int .i64 2]) ∧ Below w.heap.size w w' := by
  go_enter Tryz.func40, Tryz.ntmps40
  go_wp2_with fail
  go_returns
  exact ⟨rfl, (Below.refl _ w).alloc (Nat.le_refl _) _⟩

set_option maxRecDepth 100000 in
set_option maxHeartbeats 2000000 in
theorem shapeOf_6 (w : World) :
    Calls Tryz.prog 40 #[.int .i64 6] w fun e w' => e = .returned (.agg #[.string ⟨#[109, 117, 108]⟩, .bool true, .bool true, .int .i64 2]) ∧ Below w.heap.size w w' := by
  go_enter Tryz.func40, Tryz.ntmps40
  go_wp2_with fail
  go_returns
  exact ⟨rfl, (Below.refl _ w).alloc (Nat.le_refl _) _⟩

set_option maxRecDepth 100000 in
set_option maxHeartbeats 2000000 in
theorem shapeOf_7 (w : World) :
    Calls Tryz.prog 40 #[.int .i64 7] w fun e w' => e = .returned (.agg #[.string ⟨#[100, 105, 118]⟩, .bool true, .bool true, .int .i64 2]) ∧ Below w.heap.size w w' := by
  go_enter Tryz.func40, Tryz.ntmps40
  go_wp2_with fail
  go_returns
  exact ⟨rfl, (Below.refl _ w).alloc (Nat.le_refl _) _⟩

set_option maxRecDepth 100000 in
set_option maxHeartbeats 2000000 in
theorem shapeOf_8 (w : World) :
    Calls Tryz.prog 40 #[.int .i64 8] w fun e w' => e = .returned (.agg #[.string ⟨#[109, 111, 100]⟩, .bool true, .bool true, .int .i64 2]) ∧ Below w.heap.size w w' := by
  go_enter Tryz.func40, Tryz.ntmps40
  go_wp2_with fail
  go_returns
  exact ⟨rfl, (Below.refl _ w).alloc (Nat.le_refl _) _⟩

set_option maxRecDepth 100000 in
set_option maxHeartbeats 2000000 in
theorem shapeOf_9 (w : World) :
    Calls Tryz.prog 40 #[.int .i64 9] w fun e w' => e = .returned (.agg #[.string ⟨#[97, 110, 100]⟩, .bool true, .bool true, .int .i64 2]) ∧ Below w.heap.size w w' := by
  go_enter Tryz.func40, Tryz.ntmps40
  go_wp2_with fail
  go_returns
  exact ⟨rfl, (Below.refl _ w).alloc (Nat.le_refl _) _⟩

set_option maxRecDepth 100000 in
set_option maxHeartbeats 2000000 in
theorem shapeOf_10 (w : World) :
    Calls Tryz.prog 40 #[.int .i64 10] w fun e w' => e = .returned (.agg #[.string ⟨#[111, 114]⟩, .bool true, .bool true, .int .i64 2]) ∧ Below w.heap.size w w' := by
  go_enter Tryz.func40, Tryz.ntmps40
  go_wp2_with fail
  go_returns
  exact ⟨rfl, (Below.refl _ w).alloc (Nat.le_refl _) _⟩

set_option maxRecDepth 100000 in
set_option maxHeartbeats 2000000 in
theorem shapeOf_11 (w : World) :
    Calls Tryz.prog 40 #[.int .i64 11] w fun e w' => e = .returned (.agg #[.string ⟨#[120, 111, 114]⟩, .bool true, .bool true, .int .i64 2]) ∧ Below w.heap.size w w' := by
  go_enter Tryz.func40, Tryz.ntmps40
  go_wp2_with fail
  go_returns
  exact ⟨rfl, (Below.refl _ w).alloc (Nat.le_refl _) _⟩

set_option maxRecDepth 100000 in
set_option maxHeartbeats 2000000 in
theorem shapeOf_12 (w : World) :
    Calls Tryz.prog 40 #[.int .i64 12] w fun e w' => e = .returned (.agg #[.string ⟨#[115, 104, 108]⟩, .bool true, .bool true, .int .i64 2]) ∧ Below w.heap.size w w' := by
  go_enter Tryz.func40, Tryz.ntmps40
  go_wp2_with fail
  go_returns
  exact ⟨rfl, (Below.refl _ w).alloc (Nat.le_refl _) _⟩

set_option maxRecDepth 100000 in
set_option maxHeartbeats 2000000 in
theorem shapeOf_13 (w : World) :
    Calls Tryz.prog 40 #[.int .i64 13] w fun e w' => e = .returned (.agg #[.string ⟨#[115, 104, 114]⟩, .bool true, .bool true, .int .i64 2]) ∧ Below w.heap.size w w' := by
  go_enter Tryz.func40, Tryz.ntmps40
  go_wp2_with fail
  go_returns
  exact ⟨rfl, (Below.refl _ w).alloc (Nat.le_refl _) _⟩

set_option maxRecDepth 100000 in
set_option maxHeartbeats 2000000 in
theorem shapeOf_14 (w : World) :
    Calls Tryz.prog 40 #[.int .i64 14] w fun e w' => e = .returned (.agg #[.string ⟨#[108, 116]⟩, .bool true, .bool true, .int .i64 2]) ∧ Below w.heap.size w w' := by
  go_enter Tryz.func40, Tryz.ntmps40
  go_wp2_with fail
  go_returns
  exact ⟨rfl, (Below.refl _ w).alloc (Nat.le_refl _) _⟩

set_option maxRecDepth 100000 in
set_option maxHeartbeats 2000000 in
theorem shapeOf_15 (w : World) :
    Calls Tryz.prog 40 #[.int .i64 15] w fun e w' => e = .returned (.agg #[.string ⟨#[101, 113]⟩, .bool true, .bool true, .int .i64 2]) ∧ Below w.heap.size w w' := by
  go_enter Tryz.func40, Tryz.ntmps40
  go_wp2_with fail
  go_returns
  exact ⟨rfl, (Below.refl _ w).alloc (Nat.le_refl _) _⟩

set_option maxRecDepth 100000 in
set_option maxHeartbeats 2000000 in
theorem shapeOf_16 (w : World) :
    Calls Tryz.prog 40 #[.int .i64 16] w fun e w' => e = .returned (.agg #[.string ⟨#[108, 100]⟩, .bool true, .bool true, .int .i64 1]) ∧ Below w.heap.size w w' := by
  go_enter Tryz.func40, Tryz.ntmps40
  go_wp2_with fail
  go_returns
  exact ⟨rfl, (Below.refl _ w).alloc (Nat.le_refl _) _⟩

set_option maxRecDepth 100000 in
set_option maxHeartbeats 2000000 in
theorem shapeOf_17 (w : World) :
    Calls Tryz.prog 40 #[.int .i64 17] w fun e w' => e = .returned (.agg #[.string ⟨#[115, 116]⟩, .bool true, .bool true, .int .i64 1]) ∧ Below w.heap.size w w' := by
  go_enter Tryz.func40, Tryz.ntmps40
  go_wp2_with fail
  go_returns
  exact ⟨rfl, (Below.refl _ w).alloc (Nat.le_refl _) _⟩

set_option maxRecDepth 100000 in
set_option maxHeartbeats 2000000 in
theorem shapeOf_18 (w : World) :
    Calls Tryz.prog 40 #[.int .i64 18] w fun e w' => e = .returned (.agg #[.string ⟨#[106, 109, 112]⟩, .bool false, .bool false, .int .i64 1]) ∧ Below w.heap.size w w' := by
  go_enter Tryz.func40, Tryz.ntmps40
  go_wp2_with fail
  go_returns
  exact ⟨rfl, (Below.refl _ w).alloc (Nat.le_refl _) _⟩

set_option maxRecDepth 100000 in
set_option maxHeartbeats 2000000 in
theorem shapeOf_19 (w : World) :
    Calls Tryz.prog 40 #[.int .i64 19] w fun e w' => e = .returned (.agg #[.string ⟨#[106, 122]⟩, .bool true, .bool false, .int .i64 1]) ∧ Below w.heap.size w w' := by
  go_enter Tryz.func40, Tryz.ntmps40
  go_wp2_with fail
  go_returns
  exact ⟨rfl, (Below.refl _ w).alloc (Nat.le_refl _) _⟩

set_option maxRecDepth 100000 in
set_option maxHeartbeats 2000000 in
theorem shapeOf_20 (w : World) :
    Calls Tryz.prog 40 #[.int .i64 20] w fun e w' => e = .returned (.agg #[.string ⟨#[106, 110, 122]⟩, .bool true, .bool false, .int .i64 1]) ∧ Below w.heap.size w w' := by
  go_enter Tryz.func40, Tryz.ntmps40
  go_wp2_with fail
  go_returns
  exact ⟨rfl, (Below.refl _ w).alloc (Nat.le_refl _) _⟩

set_option maxRecDepth 100000 in
set_option maxHeartbeats 2000000 in
theorem shapeOf_21 (w : World) :
    Calls Tryz.prog 40 #[.int .i64 21] w fun e w' => e = .returned (.agg #[.string ⟨#[99, 97, 108, 108]⟩, .bool true, .bool false, .int .i64 1]) ∧ Below w.heap.size w w' := by
  go_enter Tryz.func40, Tryz.ntmps40
  go_wp2_with fail
  go_returns
  exact ⟨rfl, (Below.refl _ w).alloc (Nat.le_refl _) _⟩

set_option maxRecDepth 100000 in
set_option maxHeartbeats 2000000 in
theorem shapeOf_22 (w : World) :
    Calls Tryz.prog 40 #[.int .i64 22] w fun e w' => e = .returned (.agg #[.string ⟨#[114, 101, 116]⟩, .bool true, .bool false, .int .i64 0]) ∧ Below w.heap.size w w' := by
  go_enter Tryz.func40, Tryz.ntmps40
  go_wp2_with fail
  go_returns
  exact ⟨rfl, (Below.refl _ w).alloc (Nat.le_refl _) _⟩

set_option maxRecDepth 100000 in
set_option maxHeartbeats 2000000 in
theorem shapeOf_23 (w : World) :
    Calls Tryz.prog 40 #[.int .i64 23] w fun e w' => e = .returned (.agg #[.string ⟨#[103, 101, 116]⟩, .bool true, .bool false, .int .i64 0]) ∧ Below w.heap.size w w' := by
  go_enter Tryz.func40, Tryz.ntmps40
  go_wp2_with fail
  go_returns
  exact ⟨rfl, (Below.refl _ w).alloc (Nat.le_refl _) _⟩

set_option maxRecDepth 100000 in
set_option maxHeartbeats 2000000 in
theorem shapeOf_24 (w : World) :
    Calls Tryz.prog 40 #[.int .i64 24] w fun e w' => e = .returned (.agg #[.string ⟨#[112, 117, 116]⟩, .bool true, .bool false, .int .i64 0]) ∧ Below w.heap.size w w' := by
  go_enter Tryz.func40, Tryz.ntmps40
  go_wp2_with fail
  go_returns
  exact ⟨rfl, (Below.refl _ w).alloc (Nat.le_refl _) _⟩

set_option maxRecDepth 100000 in
set_option maxHeartbeats 2000000 in
theorem shapeOf_25 (w : World) :
    Calls Tryz.prog 40 #[.int .i64 25] w fun e w' => e = .returned (.agg #[.string ⟨#[99, 104, 107]⟩, .bool true, .bool false, .int .i64 1]) ∧ Below w.heap.size w w' := by
  go_enter Tryz.func40, Tryz.ntmps40
  go_wp2_with fail
  go_returns
  exact ⟨rfl, (Below.refl _ w).alloc (Nat.le_refl _) _⟩

set_option maxRecDepth 100000 in
set_option maxHeartbeats 2000000 in
theorem shapeOf_26 (w : World) :
    Calls Tryz.prog 40 #[.int .i64 26] w fun e w' => e = .returned (.agg #[.string ⟨#[104, 97, 108, 116]⟩, .bool false, .bool false, .int .i64 0]) ∧ Below w.heap.size w w' := by
  go_enter Tryz.func40, Tryz.ntmps40
  go_wp2_with fail
  go_returns
  exact ⟨rfl, (Below.refl _ w).alloc (Nat.le_refl _) _⟩

set_option maxRecDepth 100000 in
set_option maxHeartbeats 2000000 in
theorem shapeOf_27 (w : World) :
    Calls Tryz.prog 40 #[.int .i64 27] w fun e w' => e = .returned (.agg #[.string ⟨#[108, 100, 99]⟩, .bool true, .bool true, .int .i64 1]) ∧ Below w.heap.size w w' := by
  go_enter Tryz.func40, Tryz.ntmps40
  go_wp2_with fail
  go_returns
  exact ⟨rfl, (Below.refl _ w).alloc (Nat.le_refl _) _⟩

theorem inst_shapeOf (op : Int) (w : World) :
    Calls Tryz.prog 40 #[.int .i64 op] w fun e w' => e = .returned (.agg #[.string ⟨(nameI op).toArray⟩, .bool (shA op), .bool (shB op), .int .i64 (shC op)]) ∧ Below w.heap.size w w' := by
  by_cases h : isOp op
  · have hc : op = 1 ∨ op = 2 ∨ op = 3 ∨ op = 4 ∨ op = 5 ∨ op = 6 ∨ op = 7 ∨ op = 8 ∨ op = 9 ∨ op = 10 ∨ op = 11 ∨ op = 12 ∨ op = 13 ∨ op = 14 ∨ op = 15 ∨ op = 16 ∨ op = 17 ∨ op = 18 ∨ op = 19 ∨ op = 20 ∨ op = 21 ∨ op = 22 ∨ op = 23 ∨ op = 24 ∨ op = 25 ∨ op = 26 ∨ op = 27 := by unfold isOp at h; omega
    clear h
    rcases hc with rfl | rfl | rfl | rfl | rfl | rfl | rfl | rfl | rfl | rfl | rfl | rfl | rfl | rfl | rfl | rfl | rfl | rfl | rfl | rfl | rfl | rfl | rfl | rfl | rfl | rfl | rfl
    · exact shapeOf_1 w
    · exact shapeOf_2 w
    · exact shapeOf_3 w
    · exact shapeOf_4 w
    · exact shapeOf_5 w
    · exact shapeOf_6 w
    · exact shapeOf_7 w
    · exact shapeOf_8 w
    · exact shapeOf_9 w
    · exact shapeOf_10 w
    · exact shapeOf_11 w
    · exact shapeOf_12 w
    · exact shapeOf_13 w
    · exact shapeOf_14 w
    · exact shapeOf_15 w
    · exact shapeOf_16 w
    · exact shapeOf_17 w
    · exact shapeOf_18 w
    · exact shapeOf_19 w
    · exact shapeOf_20 w
    · exact shapeOf_21 w
    · exact shapeOf_22 w
    · exact shapeOf_23 w
    · exact shapeOf_24 w
    · exact shapeOf_25 w
    · exact shapeOf_26 w
    · exact shapeOf_27 w
  · unfold nameI shA shB shC
    rw [if_neg h, if_neg h, if_neg h, if_neg h]
    exact shapeOf_none op w h
end Go.Proofs.YtknonabeagbjeaaGreatDoor
