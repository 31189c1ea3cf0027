/- Layer 7, plain: operations, their names and shapes. No program in sight. -/
import Derived.Lib.ItoaMem
import Derived.Test.YtknonabeagbjeaaGreatDoorLib
namespace Go.Proofs.YtknonabeagbjeaaGreatDoor
open Go.RowKit

/-- The names of the operations 1 to 27. -/
def nmT : List (List UInt8) := [[108, 105], [108, 117, 105], [109, 111, 118], [97, 100, 100], [115, 117, 98], [109, 117, 108], [100, 105, 118], [109, 111, 100], [97, 110, 100], [111, 114], [120, 111, 114], [115, 104, 108], [115, 104, 114], [108, 116], [101, 113], [108, 100], [115, 116], [106, 109, 112], [106, 122], [106, 110, 122], [99, 97, 108, 108], [114, 101, 116], [103, 101, 116], [112, 117, 116], [99, 104, 107], [104, 97, 108, 116], [108, 100, 99]]
/-- Whether they have A, and B, and what their C is (0: none, 1: a number, 2: a register). -/
def aT : List Bool := [true, true, true, true, true, true, true, true, true, true, true, true, true, true, true, true, true, false, true, true, true, true, true, true, true, false, true]
def bT : List Bool := [false, false, true, true, true, true, true, true, true, true, true, true, true, true, true, true, true, false, false, false, false, false, false, false, false, false, true]
def cT : List Nat := [1, 1, 0, 2, 2, 2, 2, 2, 2, 2, 2, 2, 2, 2, 2, 1, 1, 1, 1, 1, 1, 0, 0, 0, 1, 0, 1]
def isOp (op : Int) : Prop := 1 ≤ op ∧ op ≤ 27
instance (op : Int) : Decidable (isOp op) := by unfold isOp; infer_instance
def nameI (op : Int) : List UInt8 := if isOp op then nmT.getD (op.toNat - 1) [] else []
def shA (op : Int) : Bool := if isOp op then aT.getD (op.toNat - 1) false else false
def shB (op : Int) : Bool := if isOp op then bT.getD (op.toNat - 1) false else false
def shC (op : Int) : Int := if isOp op then (cT.getD (op.toNat - 1) 0 : Nat) else 0
theorem op_cases (op : Int) (h : isOp op) : ∃ k : Nat, 1 ≤ k ∧ k ≤ 27 ∧ op = k := ⟨op.toNat, by unfold isOp at h; omega, by unfold isOp at h; omega, by unfold isOp at h; omega⟩
theorem isOp_nat (k : Nat) : isOp (k : Int) ↔ 1 ≤ k ∧ k ≤ 27 := by unfold isOp; omega
theorem name_ne : ∀ k, k < 28 → 1 ≤ k → nameI ((k : Nat) : Int) ≠ [] := by decide
theorem name_apart : ∀ k, k < 28 → 1 ≤ k → ∀ j, j < 28 → 1 ≤ j → nameI ((k : Nat) : Int) = nameI ((j : Nat) : Int) → k = j := by decide +kernel
theorem name_known (op : Int) : nameI op ≠ [] ↔ isOp op := by
  constructor
  · intro h
    unfold nameI at h
    by_cases ho : isOp op
    · exact ho
    · rw [if_neg ho] at h; exact absurd rfl h
  · intro h
    obtain ⟨k, h1, h2, rfl⟩ := op_cases op h
    exact name_ne k (by omega) h1
theorem shC_cases (op : Int) : shC op = 0 ∨ shC op = 1 ∨ shC op = 2 := by
  have h : ∀ k, k < 28 → cT.getD (k - 1) 0 = 0 ∨ cT.getD (k - 1) 0 = 1 ∨ cT.getD (k - 1) 0 = 2 := by decide
  unfold shC
  by_cases ho : isOp op
  · rw [if_pos ho]
    obtain ⟨k, h1, h2, rfl⟩ := op_cases op ho
    rw [Int.toNat_natCast]
    have := h k (by omega)
    omega
  · rw [if_neg ho]; exact .inl rfl
def withinI (v most : Int) (named : Bool) : Bool := if named then decide (0 ≤ v ∧ v ≤ most) else decide (v = 0)
/-- May an instruction be? -/
def rightI (op a b c : Int) : Bool := decide (isOp op) && (withinI a 15 (shA op) && (withinI b 15 (shB op) && withinI c (if shC op = 2 then 15 else 65535) (decide (shC op ≠ 0))))
def encI (op a b c : Int) : Int := op * 16777216 + a * 1048576 + b * 65536 + c
theorem right_bounds {op a b c : Int} (h : rightI op a b c = true) : isOp op ∧ (0 ≤ a ∧ a ≤ 15) ∧ (0 ≤ b ∧ b ≤ 15) ∧ (0 ≤ c ∧ c ≤ 65535) := by
  unfold rightI withinI at h
  simp only [Bool.and_eq_true, decide_eq_true_iff] at h
  obtain ⟨h0, h1, h2, h3⟩ := h
  refine ⟨h0, ?_, ?_, ?_⟩
  · split at h1 <;> simp at h1 <;> omega
  · split at h2 <;> simp at h2 <;> omega
  · split at h3 <;> simp at h3
    · split at h3 <;> omega
    · omega
/-- The operation of a name; 0: there is none. -/
def opI (l : List UInt8) : Int := match (List.range 27).find? (fun k => decide (nameI ((k + 1 : Nat) : Int) = l)) with
  | some k => ((k + 1 : Nat) : Int)
  | none => 0
theorem opI_hit {l : List UInt8} (k : Nat) (h1 : 1 ≤ k) (h2 : k ≤ 27) (h : nameI (k : Int) = l) : opI l = k := by
  unfold opI
  have hf : (List.range 27).find? (fun k => decide (nameI ((k + 1 : Nat) : Int) = l)) = some (k - 1) := by
    rw [List.find?_range_eq_some]
    refine ⟨?_, ?_, ?_⟩
    · rw [show k - 1 + 1 = k by omega]; exact decide_eq_true h
    · exact List.mem_range.2 (by omega)
    · intro j hj
      simp only [Bool.not_eq_true', decide_eq_false_iff_not]
      intro hj2
      have := name_apart k (by omega) h1 (j + 1) (by omega) (by omega) (h.trans hj2.symm)
      omega
  rw [hf]
  dsimp only
  omega
theorem opI_miss {l : List UInt8} (h : ∀ k : Nat, 1 ≤ k → k ≤ 27 → nameI (k : Int) ≠ l) : opI l = 0 := by
  unfold opI
  have hf : (List.range 27).find? (fun k => decide (nameI ((k + 1 : Nat) : Int) = l)) = none := by
    rw [List.find?_eq_none]
    intro k hk
    have := List.mem_range.1 hk
    simp only [decide_eq_true_iff]
    exact h (k + 1) (by omega) (by omega)
  rw [hf]
end Go.Proofs.YtknonabeagbjeaaGreatDoor
