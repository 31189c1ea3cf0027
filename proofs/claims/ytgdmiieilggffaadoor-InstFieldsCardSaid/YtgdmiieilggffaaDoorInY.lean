/- Layer 7 without a program: a word with one bit turned, read. -/
import Derived.Test.YtgdmiieilggffaaDoorInP
import Derived.Test.YtgdmiieilggffaaDoorInH
import Derived.Test.YtgdmiieilggffaaDoorInM
namespace Go.Proofs.YtgdmiieilggffaaDoor

/-- Does a bit lie in the field of a letter? -/
def inF (k : Nat) (ch : UInt8) : Bool := if ch = 97 then decide (20 ≤ k) else if ch = 98 then decide (16 ≤ k ∧ k < 20) else if ch = 99 then decide (k < 16) else decide (k < 4)
def thereB (k : Nat) (l : List UInt8) : Bool := l.any (inF k)
theorem there_snoc (k : Nat) (l : List UInt8) (c : UInt8) : thereB k (l ++ [c]) = (thereB k l || inF k c) := by
  unfold thereB
  rw [List.any_append]
  simp
theorem bit_parts : ∀ k, k < 24 → 2 ^ k / 16777216 = 0 ∧ (2 ^ k / 1048576 % 16 = 0 ↔ k < 20) ∧ (2 ^ k / 65536 % 16 = 0 ↔ ¬ (16 ≤ k ∧ k < 20)) ∧ (2 ^ k % 65536 = 0 ↔ ¬ k < 16) ∧ (2 ^ k % 65536 / 16 = 0 ↔ (k < 4 ∨ 16 ≤ k)) := by decide
theorem xor_div (a b s : Nat) : (a ^^^ b) / 2 ^ s = a / 2 ^ s ^^^ b / 2 ^ s := Nat.xor_div_two_pow
theorem xor_mod (a b s : Nat) : (a ^^^ b) % 2 ^ s = a % 2 ^ s ^^^ b % 2 ^ s := Nat.xor_mod_two_pow
/-- The fields of a word with a bit turned. -/
theorem turned (x v : UInt32) (k : Nat) (hk : k < 24) (hv : v.toNat = x.toNat ^^^ 2 ^ k) :
    opD v = opD x ∧ aD v = ((x.toNat / 1048576 % 16 ^^^ 2 ^ k / 1048576 % 16 : Nat) : Int) ∧ bD v = ((x.toNat / 65536 % 16 ^^^ 2 ^ k / 65536 % 16 : Nat) : Int) ∧ cD v = ((x.toNat % 65536 ^^^ 2 ^ k % 65536 : Nat) : Int) := by
  obtain ⟨p1, -⟩ := bit_parts k hk
  have e1 : v.toNat / 16777216 = x.toNat / 16777216 := by
    have h := xor_div x.toNat (2 ^ k) 24
    rw [show (2 : Nat) ^ 24 = 16777216 from rfl, p1, Nat.xor_zero] at h
    rw [hv, h]
  have e2 : v.toNat / 1048576 % 16 = x.toNat / 1048576 % 16 ^^^ 2 ^ k / 1048576 % 16 := by
    have h := xor_div x.toNat (2 ^ k) 20
    have h2 := xor_mod (x.toNat / 2 ^ 20) (2 ^ k / 2 ^ 20) 4
    rw [← h] at h2
    rw [hv]
    exact h2
  have e3 : v.toNat / 65536 % 16 = x.toNat / 65536 % 16 ^^^ 2 ^ k / 65536 % 16 := by
    have h := xor_div x.toNat (2 ^ k) 16
    have h2 := xor_mod (x.toNat / 2 ^ 16) (2 ^ k / 2 ^ 16) 4
    rw [← h] at h2
    rw [hv]
    exact h2
  have e4 : v.toNat % 65536 = x.toNat % 65536 ^^^ 2 ^ k % 65536 := by
    have h := xor_mod x.toNat (2 ^ k) 16
    rw [hv]
    exact h
  unfold opD aD bD cD
  rw [← e2, ← e3, ← e4]
  omega
theorem xor_fit (A d : Nat) (n : Nat) (hA : A < 2 ^ n) (hd : d < 2 ^ n) : A ^^^ d < 2 ^ n := Nat.xor_lt_two_pow hA hd
theorem within_field (A d n : Nat) (named : Bool) (hd : d < 2 ^ n) (h : withinI (A : Int) ((2 ^ n - 1 : Nat) : Int) named = true) : withinI ((A ^^^ d : Nat) : Int) ((2 ^ n - 1 : Nat) : Int) named = (named || decide (d = 0)) := by
  unfold withinI at h ⊢
  cases named with
  | true =>
    rw [if_pos rfl] at h ⊢
    have h1 := of_decide_eq_true h
    have h2 := xor_fit A d n (by omega) hd
    rw [Bool.true_or]
    exact decide_eq_true (by omega)
  | false =>
    rw [if_neg (by decide)] at h ⊢
    have h1 := of_decide_eq_true h
    obtain rfl : A = 0 := by omega
    rw [Nat.zero_xor, Bool.false_or]
    by_cases h0 : d = 0
    · rw [decide_eq_true (by omega), decide_eq_true h0]
    · rw [decide_eq_false (by omega), decide_eq_false h0]
theorem within_small (A d : Nat) (h : withinI (A : Int) 15 true = true) : withinI ((A ^^^ d : Nat) : Int) 15 true = decide (d / 16 = 0) := by
  unfold withinI at h ⊢
  rw [if_pos rfl] at h ⊢
  have h1 := of_decide_eq_true h
  have h2 : (A ^^^ d) / 2 ^ 4 = A / 2 ^ 4 ^^^ d / 2 ^ 4 := xor_div A d 4
  rw [show A / 2 ^ 4 = 0 from Nat.div_eq_of_lt (by omega), Nat.zero_xor] at h2
  have e : (2 : Nat) ^ 4 = 16 := rfl
  rw [e] at h2
  by_cases h0 : d / 16 = 0
  · rw [decide_eq_true (by omega), decide_eq_true h0]
  · rw [decide_eq_false (by omega), decide_eq_false h0]
theorem fin_eq (k : Nat) (hk : k < 24) (A B : Bool) (C : Int) (hC : C = 0 ∨ C = 1 ∨ C = 2) :
    ((A || decide (k < 20)) && ((B || decide (¬ (16 ≤ k ∧ k < 20))) && (if C = 2 then decide (k < 4 ∨ 16 ≤ k) else (decide (C ≠ 0) || decide (¬ k < 16))))) =
      ((A && decide (20 ≤ k)) || (B && decide (16 ≤ k ∧ k < 20)) || (decide (C = 1) && decide (k < 16)) || (decide (C = 2) && decide (k < 4))) := by
  rcases hC with rfl | rfl | rfl <;> cases A <;> cases B <;> revert k <;> decide
theorem turned_right (x v : UInt32) (k : Nat) (hk : k < 24) (hv : v.toNat = x.toNat ^^^ 2 ^ k) (h : decB x = true) : decB v = thereB k (partsI (opD x)) := by
  obtain ⟨p1, p2, p3, p4, p5⟩ := bit_parts k hk
  obtain ⟨e1, e2, e3, e4⟩ := turned x v k hk hv
  unfold decB at h ⊢
  have hxa : aD x = ((x.toNat / 1048576 % 16 : Nat) : Int) := by unfold aD; omega
  have hxb : bD x = ((x.toNat / 65536 % 16 : Nat) : Int) := by unfold bD; omega
  have hxc : cD x = ((x.toNat % 65536 : Nat) : Int) := by unfold cD; omega
  rw [hxa, hxb, hxc] at h
  rw [e1, e2, e3, e4]
  obtain ⟨hio, -⟩ := right_bounds h
  unfold partsI
  rw [if_pos hio]
  unfold rightI at h ⊢
  simp only [Bool.and_eq_true] at h
  obtain ⟨h0, ha, hb, hc⟩ := h
  rw [h0, Bool.true_and]
  generalize shA (opD x) = A at *
  generalize shB (opD x) = B at *
  have hC := shC_cases (opD x)
  generalize shC (opD x) = C at *
  have ka := within_field _ (2 ^ k / 1048576 % 16) 4 A (Nat.mod_lt _ (by decide)) ha
  have kb := within_field _ (2 ^ k / 65536 % 16) 4 B (Nat.mod_lt _ (by decide)) hb
  rw [show ((2 ^ 4 - 1 : Nat) : Int) = 15 from rfl] at ka kb
  rw [ka, kb]
  have t1 : thereB k (partL A B C) = ((A && decide (20 ≤ k)) || (B && decide (16 ≤ k ∧ k < 20)) || (decide (C = 1) && decide (k < 16)) || (decide (C = 2) && decide (k < 4))) := by
    rcases hC with rfl | rfl | rfl <;> cases A <;> cases B <;> simp [partL, thereB, inF, Bool.or_assoc]
  rw [t1]
  have q2 : decide (2 ^ k / 1048576 % 16 = 0) = decide (k < 20) := by rw [Bool.eq_iff_iff, decide_eq_true_iff, decide_eq_true_iff]; exact p2
  have q3 : decide (2 ^ k / 65536 % 16 = 0) = decide (¬ (16 ≤ k ∧ k < 20)) := by rw [Bool.eq_iff_iff, decide_eq_true_iff, decide_eq_true_iff]; exact p3
  have q4 : decide (2 ^ k % 65536 = 0) = decide (¬ k < 16) := by rw [Bool.eq_iff_iff, decide_eq_true_iff, decide_eq_true_iff]; exact p4
  have q5 : decide (2 ^ k % 65536 / 16 = 0) = decide (k < 4 ∨ 16 ≤ k) := by rw [Bool.eq_iff_iff, decide_eq_true_iff, decide_eq_true_iff]; exact p5
  rw [q2, q3]
  have kc : withinI ((x.toNat % 65536 ^^^ 2 ^ k % 65536 : Nat) : Int) (if C = 2 then 15 else 65535) (decide (C ≠ 0)) = (if C = 2 then decide (k < 4 ∨ 16 ≤ k) else (decide (C ≠ 0) || decide (¬ k < 16))) := by
    by_cases h2 : C = 2
    · subst h2
      rw [if_pos rfl] at hc ⊢
      rw [if_pos rfl]
      have := within_small _ (2 ^ k % 65536) hc
      rw [q5] at this
      exact this
    · rw [if_neg h2] at hc ⊢
      rw [if_neg h2]
      have := within_field _ (2 ^ k % 65536) 16 _ (Nat.mod_lt _ (by decide)) hc
      rw [q4] at this
      exact this
  rw [kc]
  exact fin_eq k hk A B C hC
end Go.Proofs.YtgdmiieilggffaaDoor
