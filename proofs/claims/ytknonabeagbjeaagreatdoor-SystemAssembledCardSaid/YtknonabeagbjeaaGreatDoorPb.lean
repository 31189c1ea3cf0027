/- Plain facts: the bytes of words, and the words of bytes; no program in sight. -/
import Derived.Test.YtknonabeagbjeaaGreatDoorLib
namespace Go.Proofs.YtknonabeagbjeaaGreatDoor
open Go.RowKit

/-- The four bytes of a word, the lowest first. -/
def le4 (x : UInt32) : List UInt8 := [x.toUInt8, (x >>> 8).toUInt8, (x >>> 16).toUInt8, (x >>> 24).toUInt8]
def leBytes (l : List UInt32) : List UInt8 := l.flatMap le4

theorem leBytes_length (l : List UInt32) : (leBytes l).length = 4 * l.length := by
  induction l with
  | nil => rfl
  | cons x l ih =>
    show (le4 x ++ leBytes l).length = _
    rw [List.length_append, ih, show (le4 x).length = 4 from rfl, List.length_cons]
    omega

theorem leBytes_snoc (l : List UInt32) (k : Nat) (h : k < l.length) : leBytes (l.take (k + 1)) = leBytes (l.take k) ++ le4 l[k] := by
  unfold leBytes
  rw [List.take_succ_eq_append_getElem h, List.flatMap_append]
  simp

theorem shr8 (x : UInt32) : (x >>> 8).toNat = x.toNat / 256 := by rw [UInt32.toNat_shiftRight]; exact Nat.shiftRight_eq_div_pow _ _
theorem shr16 (x : UInt32) : (x >>> 16).toNat = x.toNat / 65536 := by rw [UInt32.toNat_shiftRight]; exact Nat.shiftRight_eq_div_pow _ _
theorem shr24 (x : UInt32) : (x >>> 24).toNat = x.toNat / 16777216 := by rw [UInt32.toNat_shiftRight]; exact Nat.shiftRight_eq_div_pow _ _
theorem le4_vals (x : UInt32) : (le4 x).map bv = [.int .u8 ((x.toNat : Int) % 256), .int .u8 ((x.toNat : Int) / 256 % 256), .int .u8 ((x.toNat : Int) / 65536 % 256), .int .u8 ((x.toNat : Int) / 16777216)] := by
  have h := x.toNat_lt
  have e0 : (x.toUInt8.toNat : Int) = (x.toNat : Int) % 256 := by rw [UInt32.toNat_toUInt8]; omega
  have e1 : ((x >>> 8).toUInt8.toNat : Int) = (x.toNat : Int) / 256 % 256 := by rw [UInt32.toNat_toUInt8, shr8]; omega
  have e2 : ((x >>> 16).toUInt8.toNat : Int) = (x.toNat : Int) / 65536 % 256 := by rw [UInt32.toNat_toUInt8, shr16]; omega
  have e3 : ((x >>> 24).toUInt8.toNat : Int) = (x.toNat : Int) / 16777216 := by rw [UInt32.toNat_toUInt8, shr24]; omega
  simp only [le4, List.map_cons, List.map_nil, bv, e0, e1, e2, e3]

/-- The word of four bytes, the lowest first; a text's words. -/
def word4 (a b c d : UInt8) : UInt32 := UInt32.ofNat (a.toNat + 256 * b.toNat + 65536 * c.toNat + 16777216 * d.toNat)
def wordsL : List UInt8 → List UInt32
  | a :: b :: c :: d :: r => word4 a b c d :: wordsL r
  | _ => []
theorem word4_toNat (a b c d : UInt8) : (word4 a b c d).toNat = a.toNat + 256 * b.toNat + 65536 * c.toNat + 16777216 * d.toNat := by
  have := a.toNat_lt; have := b.toNat_lt; have := c.toNat_lt; have := d.toNat_lt
  unfold word4; rw [UInt32.toNat_ofNat']; omega
theorem wordsL_append (x y : List UInt8) (q : Nat) (h : x.length = 4 * q) : wordsL (x ++ y) = wordsL x ++ wordsL y := by
  induction q generalizing x with
  | zero => obtain rfl : x = [] := List.eq_nil_of_length_eq_zero (by omega); rfl
  | succ q ih =>
    match x, h with
    | a :: b :: c :: d :: r, h =>
      have := ih r (by simp at h; omega)
      simp only [List.cons_append, wordsL, this]
    | [], h => simp at h
    | [_], h => simp at h; omega
    | [_, _], h => simp at h; omega
    | [_, _, _], h => simp at h; omega
theorem wordsL_length (x : List UInt8) (q : Nat) (h : x.length = 4 * q) : (wordsL x).length = q := by
  induction q generalizing x with
  | zero => obtain rfl : x = [] := List.eq_nil_of_length_eq_zero (by omega); rfl
  | succ q ih =>
    match x, h with
    | a :: b :: c :: d :: r, h =>
      have := ih r (by simp at h; omega)
      simp only [wordsL, List.length_cons, this]
    | [], h => simp at h
    | [_], h => simp at h; omega
    | [_, _], h => simp at h; omega
    | [_, _, _], h => simp at h; omega
theorem wordsL_step (l : List UInt8) (j : Nat) (h : 4 * j + 4 ≤ l.length) :
    wordsL (l.take (4 * (j + 1))) = wordsL (l.take (4 * j)) ++ [word4 l[4 * j] l[4 * j + 1] l[4 * j + 2] l[4 * j + 3]] := by
  have e : l.take (4 * (j + 1)) = l.take (4 * j) ++ [l[4 * j], l[4 * j + 1], l[4 * j + 2], l[4 * j + 3]] := by
    rw [show 4 * (j + 1) = 4 * j + 1 + 1 + 1 + 1 by omega, List.take_succ_eq_append_getElem (by omega), List.take_succ_eq_append_getElem (by omega), List.take_succ_eq_append_getElem (by omega), List.take_succ_eq_append_getElem (by omega)]
    simp only [List.append_assoc, List.cons_append, List.nil_append]
  rw [e, wordsL_append _ _ j (by rw [List.length_take]; omega)]
  rfl
@[go_sem] theorem u8_m0 (x : UInt8) : (x.toNat : Int) % 4294967296 = x.toNat := by have := x.toNat_lt; omega
@[go_sem] theorem u8_m1 (x : UInt8) : (x.toNat : Int) * 256 % 4294967296 = (x.toNat : Int) * 256 := by have := x.toNat_lt; omega
@[go_sem] theorem u8_m2 (x : UInt8) : (x.toNat : Int) * 65536 % 4294967296 = (x.toNat : Int) * 65536 := by have := x.toNat_lt; omega
@[go_sem] theorem u8_m3 (x : UInt8) : (x.toNat : Int) * 16777216 % 4294967296 = (x.toNat : Int) * 16777216 := by have := x.toNat_lt; omega
@[go_sem] theorem or_8 (x y : UInt8) : bits .or .u32 (x.toNat : Int) ((y.toNat : Int) * 256) = (x.toNat : Int) + 256 * y.toNat := by
  have := x.toNat_lt; have := y.toNat_lt
  rw [show (y.toNat : Int) * 256 = ((y.toNat * 256 : Nat) : Int) by omega, u32_or_nat _ _ (by omega) (by omega), Nat.or_comm, nat_join 8 _ _ (by omega) (by omega)]
  omega
@[go_sem] theorem or_16 (x y z : UInt8) : bits .or .u32 ((x.toNat : Int) + 256 * y.toNat) ((z.toNat : Int) * 65536) = (x.toNat : Int) + 256 * y.toNat + 65536 * z.toNat := by
  have := x.toNat_lt; have := y.toNat_lt; have := z.toNat_lt
  rw [show (z.toNat : Int) * 65536 = ((z.toNat * 65536 : Nat) : Int) by omega, show (x.toNat : Int) + 256 * y.toNat = ((x.toNat + 256 * y.toNat : Nat) : Int) by omega, u32_or_nat _ _ (by omega) (by omega), Nat.or_comm, nat_join 16 _ _ (by omega) (by omega)]
  omega
@[go_sem] theorem or_24 (x y z u : UInt8) : bits .or .u32 ((x.toNat : Int) + 256 * y.toNat + 65536 * z.toNat) ((u.toNat : Int) * 16777216) = ((word4 x y z u).toNat : Int) := by
  have := x.toNat_lt; have := y.toNat_lt; have := z.toNat_lt; have := u.toNat_lt
  rw [word4_toNat, show (u.toNat : Int) * 16777216 = ((u.toNat * 16777216 : Nat) : Int) by omega, show (x.toNat : Int) + 256 * y.toNat + 65536 * z.toNat = ((x.toNat + 256 * y.toNat + 65536 * z.toNat : Nat) : Int) by omega, u32_or_nat _ _ (by omega) (by omega), Nat.or_comm, nat_join 24 _ _ (by omega) (by omega)]
  omega

@[go_sem] theorem horner (x y z u : UInt8) : ((((u.toNat : Int) * 256 + z.toNat) % 4294967296 * 256 + y.toNat) % 4294967296 * 256 + x.toNat) % 4294967296 = ((word4 x y z u).toNat : Int) := by
  have := x.toNat_lt; have := y.toNat_lt; have := z.toNat_lt; have := u.toNat_lt
  rw [word4_toNat]; omega

theorem le4_get (x : UInt32) (k : Nat) (hk : k < 4) : (le4 x).take (k + 1) = (le4 x).take k ++ [UInt8.ofNat (x.toNat / 256 ^ k % 256)] := by
  have e0 : x.toUInt8 = UInt8.ofNat (x.toNat / 256 ^ 0 % 256) := by
    apply UInt8.toNat_inj.1; rw [UInt32.toNat_toUInt8, UInt8.toNat_ofNat']; omega
  have e1 : (x >>> 8).toUInt8 = UInt8.ofNat (x.toNat / 256 ^ 1 % 256) := by
    apply UInt8.toNat_inj.1; rw [UInt32.toNat_toUInt8, UInt8.toNat_ofNat', shr8]; omega
  have e2 : (x >>> 16).toUInt8 = UInt8.ofNat (x.toNat / 256 ^ 2 % 256) := by
    apply UInt8.toNat_inj.1; rw [UInt32.toNat_toUInt8, UInt8.toNat_ofNat', shr16]; omega
  have e3 : (x >>> 24).toUInt8 = UInt8.ofNat (x.toNat / 256 ^ 3 % 256) := by
    apply UInt8.toNat_inj.1; rw [UInt32.toNat_toUInt8, UInt8.toNat_ofNat', shr24]; omega
  unfold le4
  rw [e0, e1, e2, e3]
  rcases (by omega : k = 0 ∨ k = 1 ∨ k = 2 ∨ k = 3) with rfl | rfl | rfl | rfl <;> rfl
theorem bv_ofNat (m : Nat) : bv (UInt8.ofNat (m % 256)) = .int .u8 ((m : Int) % 256) := by
  unfold bv; rw [UInt8.toNat_ofNat']; congr 1; omega

theorem word4_le4 (x : UInt32) : wordsL (le4 x) = [x] := by
  have h := x.toNat_lt
  show [word4 _ _ _ _] = [x]
  congr 1
  apply UInt32.toNat_inj.1
  rw [word4_toNat, UInt32.toNat_toUInt8, UInt32.toNat_toUInt8, UInt32.toNat_toUInt8, UInt32.toNat_toUInt8, shr8, shr16, shr24]
  omega
theorem words_le (l : List UInt32) : wordsL (leBytes l) = l := by
  induction l with
  | nil => rfl
  | cons x l ih =>
    show wordsL (le4 x ++ leBytes l) = _
    rw [wordsL_append _ _ 1 rfl, ih, word4_le4]; rfl
theorem le4_word4 (a b c d : UInt8) : le4 (word4 a b c d) = [a, b, c, d] := by
  have := a.toNat_lt; have := b.toNat_lt; have := c.toNat_lt; have := d.toNat_lt
  have e0 : (word4 a b c d).toUInt8 = a := by apply UInt8.toNat_inj.1; rw [UInt32.toNat_toUInt8, word4_toNat]; omega
  have e1 : (word4 a b c d >>> 8).toUInt8 = b := by apply UInt8.toNat_inj.1; rw [UInt32.toNat_toUInt8, shr8, word4_toNat]; omega
  have e2 : (word4 a b c d >>> 16).toUInt8 = c := by apply UInt8.toNat_inj.1; rw [UInt32.toNat_toUInt8, shr16, word4_toNat]; omega
  have e3 : (word4 a b c d >>> 24).toUInt8 = d := by apply UInt8.toNat_inj.1; rw [UInt32.toNat_toUInt8, shr24, word4_toNat]; omega
  unfold le4
  rw [e0, e1, e2, e3]
theorem le_words (x : List UInt8) (q : Nat) (h : x.length = 4 * q) : leBytes (wordsL x) = x := by
  induction q generalizing x with
  | zero => obtain rfl : x = [] := List.eq_nil_of_length_eq_zero (by omega); rfl
  | succ q ih =>
    match x, h with
    | a :: b :: c :: d :: r, h =>
      have := ih r (by simp at h; omega)
      show le4 (word4 a b c d) ++ leBytes (wordsL r) = _
      rw [this, le4_word4]; rfl
    | [], h => simp at h
    | [_], h => simp at h; omega
    | [_, _], h => simp at h; omega
    | [_, _, _], h => simp at h; omega

end Go.Proofs.YtknonabeagbjeaaGreatDoor
