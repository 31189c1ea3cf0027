/- Layer 7: an instruction's text, whatever it is; and the document's number. -/
import Derived.Test.YtneebohaanjejaaDoorInK
namespace Go.Proofs.YtneebohaanjejaaDoor
open Go.RowKit

/-- The text of an instruction: nothing if it may not be. -/
def textB (op a b c : Int) : ByteArray :=
  if rightI op a b c = true then restS ⟨(nameI op).toArray⟩ spS (fieldsB (shA op) (shB op) (shC op) a.toNat b.toNat c.toNat) else ⟨#[]⟩
def combo (A B : Bool) (C : Int) : Bool := (A && !B && decide (C = 1)) || (A && B && decide (C = 0)) || (A && B && decide (C = 2)) || (A && B && decide (C = 1)) || (!A && !B && decide (C = 1)) || (A && !B && decide (C = 0)) || (!A && !B && decide (C = 0))
theorem shape_all : ∀ k, k < 28 → 1 ≤ k → combo (shA ((k : Nat) : Int)) (shB (k : Int)) (shC (k : Int)) = true := by decide
theorem combo_of {A B : Bool} {C : Int} (h : combo A B C = true) : (A = true ∧ B = false ∧ C = 1) ∨ (A = true ∧ B = true ∧ C = 0) ∨ (A = true ∧ B = true ∧ C = 2) ∨ (A = true ∧ B = true ∧ C = 1) ∨ (A = false ∧ B = false ∧ C = 1) ∨ (A = true ∧ B = false ∧ C = 0) ∨ (A = false ∧ B = false ∧ C = 0) := by
  cases A <;> cases B <;> simp [combo] at h ⊢ <;> omega
theorem name_size : ∀ k, k < 28 → (nameI ((k : Nat) : Int)).length ≤ 4 := by decide

set_option maxHeartbeats 1000000 in
theorem inst_Text (op a b c : Int) (w : World) (hp : Pow10 w) :
    Calls Tryd.prog 39 #[.agg #[.int .i64 op, .int .i64 a, .int .i64 b, .int .i64 c]] w fun e w' => e = .returned (.string (textB op a b c)) ∧ Below w.heap.size w w' := by
  unfold textB
  cases h : rightI op a b c with
  | false =>
    rw [if_neg (by decide)]
    have KR : Hid (∀ W, Calls Tryd.prog 57 #[.agg #[.int .i64 op, .int .i64 a, .int .i64 b, .int .i64 c]] W fun e w' => e = .returned (.bool false) ∧ Below W.heap.size W w') := by
      intro W
      have h2 := inst_Right op a b c W
      rw [h] at h2
      exact h2
    have hI := Ib.new w op a b c
    clear h
    go_enter Tryd.func39, Tryd.ntmps39
    go_wp2_with fail
    refine (KR.out _).mono ?_
    rintro e w1 ⟨rfl, hb1⟩
    go_wp2_with fail
    go_returns
    exact ⟨rfl, (hI.below hb1).bel⟩
  | true =>
    rw [if_pos rfl]
    obtain ⟨hio, ⟨a1, a2⟩, ⟨b1, b2⟩, ⟨c1, c2⟩⟩ := right_bounds h
    have KR : Hid (∀ W, Calls Tryd.prog 57 #[.agg #[.int .i64 op, .int .i64 a, .int .i64 b, .int .i64 c]] W fun e w' => e = .returned (.bool true) ∧ Below W.heap.size W w') := by
      intro W
      have h2 := inst_Right op a b c W
      rw [h] at h2
      exact h2
    have KS : ∀ W, Calls Tryd.prog 70 #[.int .i64 op] W _ := inst_shapeOf op
    obtain ⟨k, k1, k2, rfl⟩ := op_cases op hio
    obtain ⟨A, rfl⟩ : ∃ A : Nat, a = A := ⟨a.toNat, by omega⟩
    obtain ⟨B, rfl⟩ : ∃ B : Nat, b = B := ⟨b.toNat, by omega⟩
    obtain ⟨C, rfl⟩ : ∃ C : Nat, c = C := ⟨c.toNat, by omega⟩
    simp only [Int.toNat_natCast]
    have hN : (⟨(nameI (k : Int)).toArray⟩ : ByteArray).size ≤ 4 := name_size k (by omega)
    rcases combo_of (shape_all k (by omega) k1) with ⟨e1, e2, e3⟩ | ⟨e1, e2, e3⟩ | ⟨e1, e2, e3⟩ | ⟨e1, e2, e3⟩ | ⟨e1, e2, e3⟩ | ⟨e1, e2, e3⟩ | ⟨e1, e2, e3⟩
    all_goals rw [e1, e2, e3] at KS
    all_goals rw [e1, e2, e3]
    · exact inst_Text_ac k A B C _ w hN (by omega) (by omega) (by omega) hp KR KS
    · exact inst_Text_ab k A B C _ w hN (by omega) (by omega) (by omega) hp KR KS
    · exact inst_Text_abr k A B C _ w hN (by omega) (by omega) (by omega) hp KR KS
    · exact inst_Text_abc k A B C _ w hN (by omega) (by omega) (by omega) hp KR KS
    · exact inst_Text_c k A B C _ w hN (by omega) (by omega) (by omega) hp KR KS
    · exact inst_Text_a k A B C _ w hN (by omega) (by omega) (by omega) hp KR KS
    · exact inst_Text_no k A B C _ w hN (by omega) (by omega) (by omega) hp KR KS

theorem ref_number (n : Nat) (hn : n < 65536) (w : World) :
    Calls Tryd.prog 102 #[.int .i64 (n : Int)] w fun e w' => e = .returned (.string ⟨(Lib.itoa (n : Int)).toArray⟩) ∧ Below w.heap.size w w' := by
  rw [Lib.itoa_nonneg]
  have hq : (n : Int) % 4294967296 = n := by omega
  go_enter Tryd.func102, Tryd.ntmps102
  go_wp2_with fail
  refine (ref01_Text n (by omega) _).mono ?_
  rintro e w1 ⟨rfl, hb⟩
  go_wp2_with fail
  go_returns
  exact ⟨rfl, hb⟩
end Go.Proofs.YtneebohaanjejaaDoor
