/- Layer 3 without a program: what a text is padded to, and the sponge over its words. -/
import Derived.Test.YtdkkomcokefkhaaDoorDgK
import Derived.Test.YtdkkomcokefkhaaDoorPb
namespace Go.Proofs.YtdkkomcokefkhaaDoor

/-- The word of four bytes, the lowest first, that begins at byte 4 * j. -/
def leAt (l : List UInt8) (j : Nat) : UInt32 := word4 (l.getD (4 * j) 0) (l.getD (4 * j + 1) 0) (l.getD (4 * j + 2) 0) (l.getD (4 * j + 3) 0)
def padZ (n : Nat) : Nat := (23 - n % 16) % 16
def lenB (n : Nat) : List UInt8 := leBytes [UInt32.ofNat n, UInt32.ofNat (n / 4294967296)]
def padL (l : List UInt8) : List UInt8 := l ++ (128 :: (List.replicate (padZ l.length) 0 ++ lenB l.length))
def one8 : Nat → UInt32 := fun i => if i = 0 then 1 else 0
/-- The state behind k blocks of words. -/
def spg (g : Nat → UInt32) : Nat → Nat → UInt32
  | 0 => one8
  | k + 1 => absorb (spg g k) (fun i => g (4 * k + i))
/-- The digest of bytes. -/
def ofL (l : List UInt8) : Nat → UInt32 := spg (leAt (padL l)) ((padL l).length / 16)

theorem lenB_length (n : Nat) : (lenB n).length = 8 := by unfold lenB; rw [leBytes_length]; rfl
theorem padZ_lt (n : Nat) : padZ n < 16 := by unfold padZ; omega
theorem padL_length (l : List UInt8) : (padL l).length = l.length + 9 + padZ l.length := by
  unfold padL
  rw [List.length_append, List.length_cons, List.length_append, List.length_replicate, lenB_length]
  omega
theorem padL_sixteen (l : List UInt8) : (padL l).length % 16 = 0 := by
  rw [padL_length]
  unfold padZ
  omega
theorem leAt_front (l r : List UInt8) (j : Nat) (h : 4 * j + 4 ≤ l.length) : leAt (l ++ r) j = leAt l j := by
  have e : ∀ i, i < l.length → (l ++ r).getD i 0 = l.getD i 0 := fun i hi => by
    rw [List.getD_eq_getElem?_getD, List.getD_eq_getElem?_getD, List.getElem?_append_left hi]
  unfold leAt
  rw [e _ (by omega), e _ (by omega), e _ (by omega), e _ (by omega)]
theorem leAt_drop (l : List UInt8) (m j : Nat) : leAt (l.drop (4 * m)) j = leAt l (m + j) := by
  have e : ∀ i, (l.drop (4 * m)).getD i 0 = l.getD (4 * m + i) 0 := fun i => by
    rw [List.getD_eq_getElem?_getD, List.getD_eq_getElem?_getD, List.getElem?_drop]
  unfold leAt
  rw [e, e, e, e]
  congr 2 <;> omega
theorem spg_congr (g h : Nat → UInt32) (n : Nat) (e : ∀ j, j < 4 * n → g j = h j) : spg g n = spg h n := by
  induction n with
  | zero => rfl
  | succ n ih =>
    unfold spg
    rw [ih fun j hj => e j (by omega)]
    unfold absorb
    congr 1
    funext i
    unfold xorTo
    by_cases hi : i < 4
    · rw [if_pos hi, if_pos hi]; dsimp only; rw [e (4 * n + i) (by omega)]
    · rw [if_neg hi, if_neg hi]
theorem absorb_congr (f b c : Nat → UInt32) (e : ∀ i, i < 4 → b i = c i) : absorb f b = absorb f c := by
  unfold absorb
  congr 1
  funext i
  unfold xorTo
  by_cases hi : i < 4
  · rw [if_pos hi, if_pos hi, e i hi]
  · rw [if_neg hi, if_neg hi]
theorem wordsL_at : ∀ (l : List UInt8) (q j : Nat), l.length = 4 * q → j < q → (wordsL l).getD j 0 = leAt l j
  | [], q, j, h, hj => by simp at h; omega
  | [_], q, j, h, hj => by simp at h; omega
  | [_, _], q, j, h, hj => by simp at h; omega
  | [_, _, _], q, j, h, hj => by simp at h; omega
  | a :: b :: c :: d :: r, q, j, h, hj => by
    cases j with
    | zero => rfl
    | succ j =>
      have h2 := wordsL_at r (q - 1) j (by simp at h; omega) (by omega)
      show (wordsL r).getD j 0 = _
      rw [h2]
      have h3 := leAt_drop (a :: b :: c :: d :: r) 1 j
      rw [show (a :: b :: c :: d :: r).drop (4 * 1) = r from rfl, Nat.add_comm 1 j] at h3
      exact h3
end Go.Proofs.YtdkkomcokefkhaaDoor
