/- Plain facts on words: what the operations make of two words, turning; no program in sight. -/
import Derived.Test.YthfdjfgmgoafnaaDoorLib
namespace Go.Proofs.YthfdjfgmgoafnaaDoor
open Go.RowKit

/-- What the operation 'op' makes of two words: the word, and the error's number. -/
def divideW (op : Int) (a b : UInt32) : UInt32 × Int := if b.toNat = 0 then (0, 14) else if op = 7 then (a / b, 0) else (a % b, 0)
def shiftW (op : Int) (a b : UInt32) : UInt32 := if 31 < b.toNat then 0 else if op = 12 then UInt32.ofNat (a.toNat * 2 ^ b.toNat) else UInt32.ofNat (a.toNat / 2 ^ b.toNat)
def compareW (op : Int) (a b : UInt32) : UInt32 := if op = 14 then (if a.toNat < b.toNat then 1 else 0) else if op = 15 then (if a.toNat = b.toNat then 1 else 0) else 0
def bitsW (op : Int) (a b : UInt32) : UInt32 := if op = 9 then a &&& b else if op = 10 then a ||| b else a ^^^ b
def applyW (op : Int) (a b : UInt32) : UInt32 × Int :=
  if op = 4 then (a + b, 0) else if op = 5 then (a - b, 0) else if op = 6 then (a * b, 0)
  else if op = 7 ∨ op = 8 then divideW op a b
  else if op = 9 ∨ op = 10 ∨ op = 11 then (bitsW op a b, 0)
  else if op = 12 ∨ op = 13 then (shiftW op a b, 0)
  else if op = 14 ∨ op = 15 then (compareW op a b, 0)
  else (0, 1)

theorem w_add (a b : UInt32) : ((a + b).toNat : Int) = ((a.toNat : Int) + b.toNat) % 4294967296 := by rw [UInt32.toNat_add]; omega
theorem w_sub (a b : UInt32) : ((a - b).toNat : Int) = ((a.toNat : Int) - b.toNat) % 4294967296 := by
  have h1 := a.toNat_lt
  have h2 := b.toNat_lt
  rw [UInt32.toNat_sub]; omega
theorem w_mul (a b : UInt32) : ((a * b).toNat : Int) = ((a.toNat : Int) * b.toNat) % 4294967296 := by
  rw [UInt32.toNat_mul, ← Int.natCast_mul]; omega
theorem w_mul' (a b : UInt32) : (IntKind.u64.wrap ((a.toNat : Int) * b.toNat)).tmod 4294967296 % 4294967296 = ((a * b).toNat : Int) := by
  rw [w_mul, IntKind.wrap_u64, tmod_of_emod]; omega
theorem w_and (a b : UInt32) : bits .and .u32 (a.toNat : Int) (b.toNat : Int) = ((a &&& b).toNat : Int) := by rw [u32_and_nat _ _ a.toNat_lt b.toNat_lt, UInt32.toNat_and]
theorem w_or (a b : UInt32) : bits .or .u32 (a.toNat : Int) (b.toNat : Int) = ((a ||| b).toNat : Int) := by rw [u32_or_nat _ _ a.toNat_lt b.toNat_lt, UInt32.toNat_or]
theorem w_xor (a b : UInt32) : bits .xor .u32 (a.toNat : Int) (b.toNat : Int) = ((a ^^^ b).toNat : Int) := by rw [u32_xor_nat _ _ a.toNat_lt b.toNat_lt, UInt32.toNat_xor]
theorem w_div (a b : UInt32) : ((a / b).toNat : Int) = (a.toNat : Int) / b.toNat := by rw [UInt32.toNat_div]; omega
theorem w_div' (a b : UInt32) : ((a / b).toNat : Int) = (a.toNat : Int) / b.toNat % 4294967296 := by
  have h := (a / b).toNat_lt
  rw [← w_div]; omega
theorem w_mod (a b : UInt32) : ((a % b).toNat : Int) = (a.toNat : Int) % b.toNat := by rw [UInt32.toNat_mod]; omega
theorem w_shl (a : UInt32) (n : Nat) : ((UInt32.ofNat (a.toNat * 2 ^ n)).toNat : Int) = (a.toNat : Int) * 2 ^ n % 4294967296 := by
  rw [UInt32.toNat_ofNat']
  show ((a.toNat * 2 ^ n % 4294967296 : Nat) : Int) = _
  rw [Int.natCast_emod, Int.natCast_mul, Int.natCast_pow]
  rfl
theorem w_shr (a : UInt32) (n : Nat) : ((UInt32.ofNat (a.toNat / 2 ^ n)).toNat : Int) = (a.toNat : Int) / 2 ^ n := by
  have h := a.toNat_lt
  have h2 : a.toNat / 2 ^ n ≤ a.toNat := Nat.div_le_self _ _
  rw [UInt32.toNat_ofNat', Nat.mod_eq_of_lt (by omega), Int.natCast_ediv, Int.natCast_pow]
  rfl

/-- A word moved by places one at a time. -/
def shN (up : Bool) (a k : Nat) : Nat := if up then a * 2 ^ k % 4294967296 else a / 2 ^ k
theorem shN_zero (up : Bool) (a : UInt32) : shN up a.toNat 0 = a.toNat := by
  have := a.toNat_lt
  unfold shN
  split
  · rw [Nat.pow_zero, Nat.mul_one]; omega
  · rw [Nat.pow_zero, Nat.div_one]
theorem shN_up (a k : Nat) : shN true a (k + 1) = 2 * shN true a k % 4294967296 := by
  unfold shN
  rw [if_pos rfl, if_pos rfl, Nat.pow_succ, ← Nat.mul_assoc]
  omega
theorem shN_down (a k : Nat) : shN false a (k + 1) = shN false a k / 2 := by
  unfold shN
  rw [if_neg (by decide), if_neg (by decide), Nat.pow_succ, Nat.div_div_eq_div_mul]

/-- A word turned to the left, one place at a time. -/
def rot1 (x : Nat) : Nat := 2 * x % 4294967296 + x / 2147483648
def rotI : Nat → Nat → Nat
  | 0, a => a
  | k + 1, a => rot1 (rotI k a)
def turnW (a : UInt32) (n : Int) : UInt32 := UInt32.ofNat (rotI (n % 32).toNat a.toNat)

theorem rot_step (a k : Nat) (ha : a < 4294967296) (hk : k < 32) :
   2 * (a * 2 ^ k % 4294967296 + a / 2 ^ (32 - k)) % 4294967296 + (a * 2 ^ k % 4294967296 + a / 2 ^ (32 - k)) / 2147483648 = a * 2 ^ (k + 1) % 4294967296 + a / 2 ^ (32 - (k + 1)) := by
  have hQ : (2147483648:Nat) = 2^(31-k) * 2^k := by rw [← Nat.pow_add, show 31 - k + k = 31 by omega]
  rw [show 32 - k = (31 - k) + 1 by omega, show 32 - (k+1) = 31 - k by omega, Nat.pow_succ, Nat.pow_succ]
  have hq0 : 0 < 2^(31-k) := Nat.two_pow_pos _
  have hr0 : 0 < 2^k := Nat.two_pow_pos _
  generalize 2^(31-k) = q at *
  generalize 2^k = r at *
  have hdm := Nat.div_add_mod a q
  have hlq := Nat.mod_lt a hq0
  have d1 : a / (q * 2) = a / q / 2 := (Nat.div_div_eq_div_mul a q 2).symm
  have hhr : a / (q * 2) < r := Nat.div_lt_of_lt_mul (by rw [Nat.mul_comm q 2, Nat.mul_assoc, ← hQ]; exact ha)
  rw [d1] at hhr ⊢
  have hlr : a % q * r + a / q / 2 < 2147483648 := by
    have h1 : (a % q + 1) * r ≤ q * r := Nat.mul_le_mul_right _ hlq
    rw [Nat.add_mul, ← hQ] at h1; omega
  have har : a * r = a / q * 2147483648 + a % q * r := by
    rw [hQ, ← Nat.mul_assoc, Nat.mul_comm (a / q) q, ← Nat.add_mul, hdm]
  rw [← Nat.mul_assoc a r 2]
  generalize a * r = ar at *
  generalize a % q * r = lr at *
  generalize a / q = y at *
  obtain ⟨h, hy⟩ : ∃ h, h = y / 2 := ⟨_, rfl⟩
  rw [← hy] at hhr hlr ⊢
  rcases Nat.mod_two_eq_zero_or_one y with ht | ht
  · have e1 : ar % 4294967296 = lr := by omega
    have e2 : ar * 2 % 4294967296 = 2 * lr := by omega
    rw [e1, e2]; omega
  · have e1 : ar % 4294967296 = 2147483648 + lr := by omega
    have e2 : ar * 2 % 4294967296 = 2 * lr := by omega
    rw [e1, e2]; omega

theorem rotI_lt (a k : Nat) (ha : a < 4294967296) : rotI k a < 4294967296 := by
  induction k with
  | zero => exact ha
  | succ k ih => unfold rotI rot1; omega
theorem rotI_form (a k : Nat) (ha : a < 4294967296) (hk : k ≤ 32) : rotI k a = a * 2 ^ k % 4294967296 + a / 2 ^ (32 - k) := by
  induction k with
  | zero => simp only [rotI, Nat.pow_zero, Nat.mul_one, Nat.sub_zero]; omega
  | succ k ih => unfold rotI rot1; rw [ih (by omega), rot_step a k ha (by omega)]
theorem rotI_32 (a : Nat) (ha : a < 4294967296) : rotI 32 a = a := by
  rw [rotI_form a 32 ha (Nat.le_refl _)]
  simp only [Nat.sub_self, Nat.pow_zero, Nat.div_one, Nat.reducePow]; omega
theorem rotI_add (a i j : Nat) : rotI (i + j) a = rotI i (rotI j a) := by
  induction i with
  | zero => rw [Nat.zero_add]; rfl
  | succ i ih => rw [Nat.succ_add]; unfold rotI; rw [ih]
theorem rotI_full (a q r : Nat) (ha : a < 4294967296) : rotI (r + 32 * q) a = rotI r a := by
  induction q with
  | zero => rfl
  | succ q ih => rw [Nat.mul_succ, ← Nat.add_assoc, rotI_add, rotI_32 a ha, ih]
theorem rotI_mod (a k : Nat) (ha : a < 4294967296) : rotI (k % 32) a = rotI k a := by
  rw [← rotI_full a (k / 32) (k % 32) ha, Nat.mod_add_div]
theorem turnW_toNat (a : UInt32) (n : Int) : (turnW a n).toNat = rotI (n % 32).toNat a.toNat := by
  unfold turnW
  rw [UInt32.toNat_ofNat']
  exact Nat.mod_eq_of_lt (rotI_lt _ _ a.toNat_lt)
theorem tmod32 (n : Int) : ∃ t : Int, n.tmod 32 = t ∧ -32 < t ∧ t < 32 ∧ (t < 0 → n % 32 = t + 32) ∧ (0 ≤ t → n % 32 = t) := by
  have h := Int.tmod_eq_emod (a := n) (b := 32)
  refine ⟨_, rfl, ?_⟩
  rw [h]
  simp only [Int.natAbs]
  split <;> omega
theorem tmod32k (n : Int) : ∃ k : Nat, k ≤ 31 ∧ (n % 32).toNat = k ∧ (n.tmod 32 = (k : Int) - 32 ∧ (k : Int) - 32 < 0 ∨ n.tmod 32 = k) := by
  obtain ⟨t, ht, h0, h1, h2, h3⟩ := tmod32 n
  by_cases hneg : t < 0
  · exact ⟨(t + 32).toNat, by omega, by have := h2 hneg; omega, .inl ⟨by omega, by omega⟩⟩
  · exact ⟨t.toNat, by omega, by have := h3 (by omega); omega, .inr (by omega)⟩
theorem rot1_int (m : Nat) : (2 * (m : Int)) % 4294967296 + (m : Int) / 2147483648 = (rot1 m : Nat) := by unfold rot1; omega
theorem turnW_turnW (a : UInt32) (n m k : Int) (h : k % 32 = (n % 32 + m % 32) % 32) : turnW (turnW a n) m = turnW a k := by
  apply UInt32.toNat_inj.1
  rw [turnW_toNat, turnW_toNat, turnW_toNat, ← rotI_add, ← rotI_mod _ ((m % 32).toNat + (n % 32).toNat) a.toNat_lt]
  congr 1
  omega
theorem turnW_zero (a : UInt32) (k : Int) (h : k % 32 = 0) : turnW a k = a := by
  apply UInt32.toNat_inj.1
  rw [turnW_toNat, h]; rfl
/-- The two parts of a turned word don't meet. -/
theorem or_parts (a k : Nat) (ha : a < 4294967296) (hk : k ≤ 31) : a * 2 ^ k % 4294967296 ||| a / 2 ^ (32 - k) = rotI k a := by
  rw [rotI_form a k ha (by omega)]
  have hp : (4294967296 : Nat) = 2 ^ k * 2 ^ (32 - k) := by rw [← Nat.pow_add, show k + (32 - k) = 32 by omega]
  refine nat_join k _ _ ?_ ?_
  · rw [hp, Nat.mod_mul_right_mod, Nat.mul_mod_left]
  · exact Nat.div_lt_of_lt_mul (by rw [Nat.mul_comm, ← hp]; exact ha)
theorem or_parts_int (a k : Nat) (ha : a < 4294967296) (hk : k ≤ 31) : bits .or .u32 ((a : Int) * 2 ^ k % 4294967296) ((a : Int) / 2 ^ (32 - k)) = (rotI k a : Nat) := by
  have e1 : (a : Int) * 2 ^ k % 4294967296 = ((a * 2 ^ k % 4294967296 : Nat) : Int) := by
    rw [Int.natCast_emod, Int.natCast_mul, Int.natCast_pow]; rfl
  have e2 : (a : Int) / 2 ^ (32 - k) = ((a / 2 ^ (32 - k) : Nat) : Int) := by
    rw [Int.natCast_ediv, Int.natCast_pow]; rfl
  rw [e1, e2, u32_or_nat _ _ (Nat.mod_lt _ (by decide)) (Nat.lt_of_le_of_lt (Nat.div_le_self _ _) ha), or_parts a k ha hk]

/-- A number's bits. -/
def bitN (x i : Nat) : Nat := x / 2 ^ i % 2
theorem bitN_lt (x i : Nat) : bitN x i < 2 := Nat.mod_lt _ (by decide)
theorem bitN_test (x i : Nat) : bitN x i = (x.testBit i).toNat := by
  rw [Nat.testBit_eq_decide_div_mod_eq]
  unfold bitN
  have := Nat.mod_lt (x / 2 ^ i) (show 0 < 2 by decide)
  by_cases h : x / 2 ^ i % 2 = 1
  · simp [h]
  · simp [h]; omega
theorem top_step (x m : Nat) (hm : m < 32) : 2 * (x / 2 ^ (32 - m)) + bitN x (31 - m) = x / 2 ^ (32 - (m + 1)) := by
  unfold bitN
  rw [show 32 - m = (31 - m) + 1 by omega, show 32 - (m + 1) = 31 - m by omega, Nat.pow_succ, ← Nat.div_div_eq_div_mul]
  omega
def cmb (op : Int) (x y : Nat) : Nat := if (x + y = 2 ∧ op ≠ 11) ∨ (x + y = 1 ∧ op ≠ 9) then 1 else 0
theorem cmb_bits (op : Int) (hop : op = 9 ∨ op = 10 ∨ op = 11) (a b : UInt32) (i : Nat) : cmb op (bitN a.toNat i) (bitN b.toNat i) = bitN (bitsW op a b).toNat i := by
  rw [bitN_test, bitN_test, bitN_test]
  rcases hop with rfl | rfl | rfl
  · have e : bitsW 9 a b = a &&& b := rfl
    rw [e, UInt32.toNat_and, Nat.testBit_and]
    cases a.toNat.testBit i <;> cases b.toNat.testBit i <;> decide
  · have e : bitsW 10 a b = a ||| b := rfl
    rw [e, UInt32.toNat_or, Nat.testBit_or]
    cases a.toNat.testBit i <;> cases b.toNat.testBit i <;> decide
  · have e : bitsW 11 a b = a ^^^ b := rfl
    rw [e, UInt32.toNat_xor, Nat.testBit_xor]
    cases a.toNat.testBit i <;> cases b.toNat.testBit i <;> decide
theorem and_mod_two (a b : Nat) : (a &&& b) % 2 = (a % 2) * (b % 2) := by
  have h := Nat.testBit_and a b 0
  rw [Nat.testBit_zero, Nat.testBit_zero, Nat.testBit_zero] at h
  rcases (by omega : a % 2 = 0 ∨ a % 2 = 1) with e | e <;> rcases (by omega : b % 2 = 0 ∨ b % 2 = 1) with f | f <;> rw [e, f] at h ⊢ <;> by_cases g : (a &&& b) % 2 = 1 <;> simp only [g, decide_true, decide_false] at h <;> first | omega | exact absurd h (by decide)
theorem or_mod_two (a b : Nat) : (a ||| b) % 2 = a % 2 + b % 2 - (a % 2) * (b % 2) := by
  have h := Nat.testBit_or a b 0
  rw [Nat.testBit_zero, Nat.testBit_zero, Nat.testBit_zero] at h
  rcases (by omega : a % 2 = 0 ∨ a % 2 = 1) with e | e <;> rcases (by omega : b % 2 = 0 ∨ b % 2 = 1) with f | f <;> rw [e, f] at h ⊢ <;> by_cases g : (a ||| b) % 2 = 1 <;> simp only [g, decide_true, decide_false] at h <;> first | omega | exact absurd h (by decide)
theorem xor_mod_two (a b : Nat) : (a ^^^ b) % 2 = a % 2 + b % 2 - 2 * ((a % 2) * (b % 2)) := by
  have h := Nat.testBit_xor a b 0
  rw [Nat.testBit_zero, Nat.testBit_zero, Nat.testBit_zero] at h
  rcases (by omega : a % 2 = 0 ∨ a % 2 = 1) with e | e <;> rcases (by omega : b % 2 = 0 ∨ b % 2 = 1) with f | f <;> rw [e, f] at h ⊢ <;> by_cases g : (a ^^^ b) % 2 = 1 <;> simp only [g, decide_true, decide_false] at h <;> first | omega | exact absurd h (by decide)
theorem and_add_or (a b : Nat) : (a &&& b) + (a ||| b) = a + b := by
  induction a using Nat.strongRecOn generalizing b with
  | _ a ih =>
    by_cases h : a = 0
    · subst h; simp
    · have i1 := ih (a / 2) (by omega) (b / 2)
      rw [← Nat.and_div_two, ← Nat.or_div_two] at i1
      have m1 := and_mod_two a b
      have m2 := or_mod_two a b
      rcases (by omega : a % 2 = 0 ∨ a % 2 = 1) with e | e <;> rcases (by omega : b % 2 = 0 ∨ b % 2 = 1) with f | f <;> rw [e, f] at m1 m2 <;> omega
theorem xor_add_and (a b : Nat) : (a ^^^ b) + (a &&& b) = (a ||| b) := by
  induction a using Nat.strongRecOn generalizing b with
  | _ a ih =>
    by_cases h : a = 0
    · subst h; simp
    · have i1 := ih (a / 2) (by omega) (b / 2)
      rw [← Nat.and_div_two, ← Nat.or_div_two, ← Nat.xor_div_two] at i1
      have m1 := and_mod_two a b
      have m2 := or_mod_two a b
      have m3 := xor_mod_two a b
      rcases (by omega : a % 2 = 0 ∨ a % 2 = 1) with e | e <;> rcases (by omega : b % 2 = 0 ∨ b % 2 = 1) with f | f <;> rw [e, f] at m1 m2 m3 <;> omega
end Go.Proofs.YthfdjfgmgoafnaaDoor
