/- Layer 1: words of bytes, walked: the program's and the document's. -/
import Derived.Test.YtflcaokjcgadgaaInfo
import Derived.Test.YtflcaokjcgadgaaWord
namespace Go.Proofs.Ytflcaokjcgadgaa
open Go.RowKit

/-- The word of four bytes, the lowest first; a text's words. -/
def word4 (a b c d : UInt8) : UInt32 := UInt32.ofNat (a.toNat + 256 * b.toNat + 65536 * c.toNat + 16777216 * d.toNat)
def wordsL : List UInt8 → List UInt32
  | a :: b :: c :: d :: r => word4 a b c d :: wordsL r
  | _ => []
theorem word4_toNat (a b c d : UInt8) : (word4 a b c d).toNat = a.toNat + 256 * b.toNat + 65536 * c.toNat + 16777216 * d.toNat := by
  have := a.toNat_lt; have := b.toNat_lt; have := c.toNat_lt; have := d.toNat_lt
  unfold word4; rw [UInt32.toNat_ofNat']; omega
theorem wordsL_append (x y : List UInt8) (q : Nat) (h : x.length = 4 * q) : wordsL (x ++ y) = wordsL x ++ wordsL y := by
  induction q generalizing x with
  | zero => obtain rfl : x = [] := List.eq_nil_of_length_eq_zero (by omega); rfl
  | succ q ih =>
    match x, h with
    | a :: b :: c :: d :: r, h =>
      have := ih r (by simp at h; omega)
      simp only [List.cons_append, wordsL, this]
    | [], h => simp at h
    | [_], h => simp at h; omega
    | [_, _], h => simp at h; omega
    | [_, _, _], h => simp at h; omega
theorem wordsL_length (x : List UInt8) (q : Nat) (h : x.length = 4 * q) : (wordsL x).length = q := by
  induction q generalizing x with
  | zero => obtain rfl : x = [] := List.eq_nil_of_length_eq_zero (by omega); rfl
  | succ q ih =>
    match x, h with
    | a :: b :: c :: d :: r, h =>
      have := ih r (by simp at h; omega)
      simp only [wordsL, List.length_cons, this]
    | [], h => simp at h
    | [_], h => simp at h; omega
    | [_, _], h => simp at h; omega
    | [_, _, _], h => simp at h; omega
theorem wordsL_step (l : List UInt8) (j : Nat) (h : 4 * j + 4 ≤ l.length) :
    wordsL (l.take (4 * (j + 1))) = wordsL (l.take (4 * j)) ++ [word4 l[4 * j] l[4 * j + 1] l[4 * j + 2] l[4 * j + 3]] := by
  have e : l.take (4 * (j + 1)) = l.take (4 * j) ++ [l[4 * j], l[4 * j + 1], l[4 * j + 2], l[4 * j + 3]] := by
    rw [show 4 * (j + 1) = 4 * j + 1 + 1 + 1 + 1 by omega, List.take_succ_eq_append_getElem (by omega), List.take_succ_eq_append_getElem (by omega), List.take_succ_eq_append_getElem (by omega), List.take_succ_eq_append_getElem (by omega)]
    simp only [List.append_assoc, List.cons_append, List.nil_append]
  rw [e, wordsL_append _ _ j (by rw [List.length_take]; omega)]
  rfl
@[go_sem] theorem u8_m0 (x : UInt8) : (x.toNat : Int) % 4294967296 = x.toNat := by have := x.toNat_lt; omega
@[go_sem] theorem u8_m1 (x : UInt8) : (x.toNat : Int) * 256 % 4294967296 = (x.toNat : Int) * 256 := by have := x.toNat_lt; omega
@[go_sem] theorem u8_m2 (x : UInt8) : (x.toNat : Int) * 65536 % 4294967296 = (x.toNat : Int) * 65536 := by have := x.toNat_lt; omega
@[go_sem] theorem u8_m3 (x : UInt8) : (x.toNat : Int) * 16777216 % 4294967296 = (x.toNat : Int) * 16777216 := by have := x.toNat_lt; omega
@[go_sem] theorem or_8 (x y : UInt8) : bits .or .u32 (x.toNat : Int) ((y.toNat : Int) * 256) = (x.toNat : Int) + 256 * y.toNat := by
  have := x.toNat_lt; have := y.toNat_lt
  rw [show (y.toNat : Int) * 256 = ((y.toNat * 256 : Nat) : Int) by omega, u32_or_nat _ _ (by omega) (by omega), Nat.or_comm, nat_join 8 _ _ (by omega) (by omega)]
  omega
@[go_sem] theorem or_16 (x y z : UInt8) : bits .or .u32 ((x.toNat : Int) + 256 * y.toNat) ((z.toNat : Int) * 65536) = (x.toNat : Int) + 256 * y.toNat + 65536 * z.toNat := by
  have := x.toNat_lt; have := y.toNat_lt; have := z.toNat_lt
  rw [show (z.toNat : Int) * 65536 = ((z.toNat * 65536 : Nat) : Int) by omega, show (x.toNat : Int) + 256 * y.toNat = ((x.toNat + 256 * y.toNat : Nat) : Int) by omega, u32_or_nat _ _ (by omega) (by omega), Nat.or_comm, nat_join 16 _ _ (by omega) (by omega)]
  omega
@[go_sem] theorem or_24 (x y z u : UInt8) : bits .or .u32 ((x.toNat : Int) + 256 * y.toNat + 65536 * z.toNat) ((u.toNat : Int) * 16777216) = ((word4 x y z u).toNat : Int) := by
  have := x.toNat_lt; have := y.toNat_lt; have := z.toNat_lt; have := u.toNat_lt
  rw [word4_toNat, show (u.toNat : Int) * 16777216 = ((u.toNat * 16777216 : Nat) : Int) by omega, show (x.toNat : Int) + 256 * y.toNat + 65536 * z.toNat = ((x.toNat + 256 * y.toNat + 65536 * z.toNat : Nat) : Int) by omega, u32_or_nat _ _ (by omega) (by omega), Nat.or_comm, nat_join 24 _ _ (by omega) (by omega)]
  omega

set_option maxHeartbeats 400000 in
theorem word_Words (s : ByteArray) (w : World) (hs : s.size ≤ 1000000000000) (h4 : s.size % 4 = 0) :
    Calls Try.prog 17 #[.string s] w fun e w' => (∃ v, e = .returned (.tuple #[v, .int .i64 0]) ∧ w'.ownsRow w.heap.size 22 1 v (wordsL s.data.toList).length ((wordsL s.data.toList).map wv)) ∧ Below w.heap.size w w' := by
  obtain ⟨n, hn⟩ : ∃ n, s.size = 4 * n := ⟨s.size / 4, by omega⟩
  have hl : s.data.toList.length = 4 * n := by rw [← hn]; rfl
  have hW := wordsL_length s.data.toList n hl
  have hmod : (s.size : Int) % 4 = 0 := by omega
  have hdiv : (s.size : Int) / 4 = n := by omega
  have HN := Lib.hid hn
  have hn1 : n ≤ 250000000000 := by omega
  have hn2 : 4 * n ≤ s.size := by omega
  clear hn h4
  go_enter Try.func17, Try.ntmps17
  go_wp2_with (at_make; refine wpList_make_row _ rfl _ _ 35 rfl w.heap.size 22 (.int .u32 0) 1 4 Try.underlying35 info_u32 _ _ _ n rfl rfl (by omega) (by omega) (by omega) (Nat.le_refl _) ?_; intro v0 w0 hown0 hb0 hg0 hv0)
  go_loopw [4, 5] (fun v i wr => ∃ j : Nat, j ≤ n ∧ i = .int .i64 (4 * (j : Int)) ∧ wr.ownsRow w.heap.size 22 1 v j ((wordsL (s.data.toList.take (4 * j))).map wv) ∧ Below w.heap.size w wr) (fun _ i _ => s.size - (intOf i).toNat)
  case atStart => exact ⟨0, Nat.zero_le _, rfl, hown0, hb0⟩
  case round =>
    obtain ⟨j, hj, rfl, hown, hbel⟩ := hrel
    have hsz := hbel.size
    by_cases hlt : j < n
    · have HS := Lib.hid (wordsL_step s.data.toList j (by omega))
      have i0 : 4 * j < s.size := by omega
      have i1 : 4 * j + 1 < s.size := by omega
      have i2 : 4 * j + 2 < s.size := by omega
      have i3 : 4 * j + 3 < s.size := by omega
      have j0 : 4 * (j : Int) < s.size := by omega
      have j1 : 4 * (j : Int) + 1 < s.size := by omega
      have j2 : 4 * (j : Int) + 2 < s.size := by omega
      have j3 : 4 * (j : Int) + 3 < s.size := by omega
      have p0 : 0 ≤ 4 * (j : Int) := by omega
      have p1 : 0 ≤ 4 * (j : Int) + 1 := by omega
      have p2 : 0 ≤ 4 * (j : Int) + 2 := by omega
      have p3 : 0 ≤ 4 * (j : Int) + 3 := by omega
      have ht : (4 * (j : Int)).toNat = 4 * j := by omega
      have ht1 : (4 * (j : Int) + 1).toNat = 4 * j + 1 := by omega
      have ht2 : (4 * (j : Int) + 2).toNat = 4 * j + 2 := by omega
      have ht3 : (4 * (j : Int) + 3).toNat = 4 * j + 3 := by omega
      go_wp2_with fail
      go_quiet (fail)
      go_wp2_with (at_builtin; refine wpList_append_new rfl _ _ 35 rfl w.heap.size (.int .u32 0) 1 4 Try.underlying35 info_u32 rfl (by decide) _ j _ rfl hown 1 rfl rfl (by simp [Value.oneCell']) (by omega) (by omega) hsz ?_; intro v1 w1 hown1 hb1 _)
      go_roundw
      case rel => exact ⟨j + 1, by omega, by go_num, by rw [HS.out, List.map_append]; exact hown1, (below_drewN hbel _).trans hb1⟩
      case measure => simp [intOf]; omega
    · obtain rfl : j = n := by omega
      rw [show 4 * j = s.data.toList.length from hl.symm, List.take_length, ← hW] at hown
      have hlt' : ¬ 4 * (j : Int) < s.size := by have := HN.out; omega
      clear hW hl
      go_wp2
      go_returns
      exact ⟨⟨_, rfl, hown⟩, hbel⟩
end Go.Proofs.Ytflcaokjcgadgaa
