/- WordTurns, WordApplies, WordBits: the laws' own texts, walked. -/
import Derived.Test.YtflcaokjcgadgaaInfo
import Derived.Test.YtflcaokjcgadgaaPw
import Derived.Test.YtflcaokjcgadgaaAlive
import Derived.Test.YtflcaokjcgadgaaRefC
import Derived.Test.YtflcaokjcgadgaaLawRing
namespace Go.Proofs.Ytflcaokjcgadgaa
open Go.RowKit

theorem applies_walk (op : Int) (a b : UInt32) (w : World) :
    Calls Try.prog 3 #[.int .i64 op, .int .u32 a.toNat, .int .u32 b.toNat] w fun e w' => e = .returned (.bool true) ∧ Below w.heap.size w w' := by
  go_enter Try.func3, Try.ntmps3
  go_wp2_with fail
  refine (alive_any _).mono ?_
  rintro e w1 ⟨rfl, hb⟩
  go_wp2_with fail
  refine (word_Apply _ _ _ _).mono ?_
  rintro e w' ⟨rfl, rfl⟩
  go_wp2_with fail
  refine (ref_Apply _ _ _ _).mono ?_
  rintro e w2 ⟨rfl, hb2⟩
  go_wp2_with fail
  go_returns
  exact ⟨rfl, hb.trans (hb2.mono hb.size)⟩

theorem turns_walk (a : UInt32) (n m : Int) (w : World) :
    Calls Try.prog 4 #[.int .u32 a.toNat, .int .i64 n, .int .i64 m] w fun e w' => e = .returned (.bool true) ∧ Below w.heap.size w w' := by
  obtain ⟨t, ht, ht0, ht1, ht2, ht3⟩ := tmod32 n
  obtain ⟨s, hs, hs0, hs1, hs2, hs3⟩ := tmod32 m
  have r1 : turnW (turnW a n) m = turnW a (t + s) := turnW_turnW a n m (t + s) (by
    by_cases h1 : t < 0 <;> by_cases h2 : s < 0
    · have := ht2 h1; have := hs2 h2; omega
    · have := ht2 h1; have := hs3 (by omega); omega
    · have := ht3 (by omega); have := hs2 h2; omega
    · have := ht3 (by omega); have := hs3 (by omega); omega)
  have r2 : turnW (turnW a s) (-s) = a := by rw [turnW_turnW a s (-s) 0 (by omega)]; exact turnW_zero a 0 rfl
  clear ht2 ht3 hs2 hs3
  go_enter Try.func4, Try.ntmps4
  go_wp2_with fail
  refine (alive_any _).mono ?_
  rintro e w1 ⟨rfl, hb⟩
  go_wp2_with (first
    | (go_at_call 13; refine (word_Turn _ _ _).mono ?_; rintro e w' ⟨rfl, rfl⟩)
    | (go_at_call 14; refine (ref_Turn _ _ _).mono ?_; rintro e w' ⟨rfl, rfl⟩))
  go_returns
  exact ⟨rfl, hb⟩

theorem shl_mul (a K P : UInt32) (hK : K.toNat ≤ 31) (hP : P.toNat = 2 ^ K.toNat) : ofW 12 a K = ofW 6 a P := by
  show shiftW 12 a K = a * P
  unfold shiftW
  rw [if_neg (by omega), if_pos rfl, ← hP, UInt32.ofNat_mul, UInt32.ofNat_toNat, UInt32.ofNat_toNat]
theorem shr_div (a K P : UInt32) (hK : K.toNat ≤ 31) (hP : P.toNat = 2 ^ K.toNat) : ofW 13 a K = ofW 7 a P := by
  have h0 : P.toNat ≠ 0 := by rw [hP]; exact Nat.ne_of_gt (Nat.two_pow_pos _)
  show shiftW 13 a K = (divideW 7 a P).1
  unfold shiftW divideW
  rw [if_neg (by omega), if_neg (by decide), if_neg h0, if_pos rfl, ← hP]
  apply UInt32.toNat_inj.1
  rw [UInt32.toNat_div, UInt32.toNat_ofNat']
  exact Nat.mod_eq_of_lt (Nat.lt_of_le_of_lt (Nat.div_le_self _ _) a.toNat_lt)
theorem sh_far (op : Int) (hop : op = 12 ∨ op = 13) (a F : UInt32) (hF : 32 ≤ F.toNat) : ofW op a F = 0 := by
  rcases hop with rfl | rfl
  · show shiftW 12 a F = 0
    unfold shiftW; rw [if_pos (by omega)]
  · show shiftW 13 a F = 0
    unfold shiftW; rw [if_pos (by omega)]

set_option maxHeartbeats 400000 in
theorem bits_walk0 (a b X Y Z K N F P : UInt32) (hX : ofW 9 a b = X) (hY : ofW 10 a b = Y) (hZ : ofW 11 a b = Z) (hN : N.toNat < 256) (hK : K.toNat ≤ 31)
    (hmod : (N.toNat : Int) % 32 = K.toNat) (hF : (N.toNat < 32 ∧ (N.toNat : Int) + 32 = F.toNat) ∨ (32 ≤ N.toNat ∧ N = F)) (hP : Hid (P.toNat = 2 ^ K.toNat))
    (t1 : ((X.toNat : Int) + Y.toNat != (a.toNat : Int) + b.toNat) = false) (t2 : ((Z.toNat : Int) + X.toNat != (Y.toNat : Int)) = false)
    (r1 : ofW 12 a K = ofW 6 a P) (r2 : ofW 13 a K = ofW 7 a P) (r3 : ofW 12 a F = 0) (r4 : ofW 13 a F = 0) (w : World) :
    Calls Try.prog 7 #[.int .u32 a.toNat, .int .u32 b.toNat, .int .u8 N.toNat] w fun e w' => e = .returned (.bool true) ∧ Below w.heap.size w w' := by
  have ha := a.toNat_lt
  have hb0 := b.toNat_lt
  have hx0 := X.toNat_lt
  have hy0 := Y.toNat_lt
  have hz0 := Z.toNat_lt
  have HF := Lib.hid hF
  clear hF
  go_enter Try.func7, Try.ntmps7
  go_wp2_with fail
  refine (alive_any _).mono ?_
  rintro e w1 ⟨rfl, hb⟩
  go_wp2_with (go_at_call 15; refine (of_any _ _ _ _).mono ?_; rintro e w' ⟨rfl, rfl⟩)
  go_loop [11, 12] (fun p i => ∃ j m : Nat, j ≤ K.toNat ∧ i = .int .u32 j ∧ p = .int .u32 m ∧ Hid (m = 2 ^ j)) (fun _ i => K.toNat - (intOf i).toNat)
  case atStart => exact ⟨0, 1, by omega, rfl, rfl, rfl⟩
  case round =>
    obtain ⟨j, m, hj, rfl, rfl, hm⟩ := hrel
    by_cases hjk : j < K.toNat
    · have hm2 : m ≤ 1073741824 := by
        rw [hm.out]
        exact Nat.le_trans (Nat.pow_le_pow_right (by decide) (show j ≤ 30 by omega)) (by decide)
      go_wp2
      go_round
      case rel => exact ⟨j + 1, 2 * m, by omega, by go_num, by go_num, by unfold Hid; rw [hm.out, Nat.pow_succ, Nat.mul_comm]⟩
      case measure => simp [intOf]; omega
    · obtain rfl : m = P.toNat := by rw [hm.out, hP.out, show j = K.toNat by omega]
      rcases HF.out with ⟨h32, hF⟩ | ⟨h32, hF⟩
      · go_wp2_with (go_at_call 15; refine (of_any _ _ _ _).mono ?_; rintro e w' ⟨rfl, rfl⟩)
        go_returns
        exact ⟨rfl, hb⟩
      · subst hF
        go_wp2_with (go_at_call 15; refine (of_any _ _ _ _).mono ?_; rintro e w' ⟨rfl, rfl⟩)
        go_returns
        exact ⟨rfl, hb⟩

theorem bits_walk (a b : UInt32) (n : UInt8) (w : World) :
    Calls Try.prog 7 #[.int .u32 a.toNat, .int .u32 b.toNat, .int .u8 n.toNat] w fun e w' => e = .returned (.bool true) ∧ Below w.heap.size w w' := by
  have hn := n.toNat_lt
  have hN : (UInt32.ofNat n.toNat).toNat = n.toNat := by rw [UInt32.toNat_ofNat']; omega
  have hK : (UInt32.ofNat (n.toNat % 32)).toNat = n.toNat % 32 := by rw [UInt32.toNat_ofNat']; omega
  have hP : (UInt32.ofNat (2 ^ (n.toNat % 32))).toNat = 2 ^ (n.toNat % 32) := by
    rw [UInt32.toNat_ofNat']
    exact Nat.mod_eq_of_lt (Nat.lt_of_le_of_lt (Nat.pow_le_pow_right (by decide) (show n.toNat % 32 ≤ 31 by omega)) (by decide))
  obtain ⟨F, hF, hF32⟩ : ∃ F : UInt32, (((UInt32.ofNat n.toNat).toNat < 32 ∧ ((UInt32.ofNat n.toNat).toNat : Int) + 32 = F.toNat) ∨ (32 ≤ (UInt32.ofNat n.toNat).toNat ∧ (UInt32.ofNat n.toNat) = F)) ∧ 32 ≤ F.toNat := by
    by_cases h : n.toNat < 32
    · refine ⟨UInt32.ofNat (n.toNat + 32), .inl ⟨by omega, ?_⟩, ?_⟩
      · rw [hN, UInt32.toNat_ofNat']; omega
      · rw [UInt32.toNat_ofNat']; omega
    · exact ⟨_, .inr ⟨by omega, rfl⟩, by omega⟩
  have t1 : (((ofW 9 a b).toNat : Int) + (ofW 10 a b).toNat != (a.toNat : Int) + b.toNat) = false := by
    show (((a &&& b).toNat : Int) + (a ||| b).toNat != (a.toNat : Int) + b.toNat) = false
    have := and_add_or a.toNat b.toNat
    rw [← UInt32.toNat_and, ← UInt32.toNat_or] at this
    rw [bne_eq_false_iff_eq]; omega
  have t2 : (((ofW 11 a b).toNat : Int) + (ofW 9 a b).toNat != ((ofW 10 a b).toNat : Int)) = false := by
    show (((a ^^^ b).toNat : Int) + (a &&& b).toNat != ((a ||| b).toNat : Int)) = false
    have := xor_add_and a.toNat b.toNat
    rw [← UInt32.toNat_and, ← UInt32.toNat_or, ← UInt32.toNat_xor] at this
    rw [bne_eq_false_iff_eq]; omega
  have := bits_walk0 a b _ _ _ _ (UInt32.ofNat n.toNat) F _ rfl rfl rfl (by omega) (by rw [hK]; omega) (by rw [hN, hK]; omega) hF (by unfold Hid; rw [hP, hK]) t1 t2
    (shl_mul a _ _ (by rw [hK]; omega) (by rw [hP, hK])) (shr_div a _ _ (by rw [hK]; omega) (by rw [hP, hK])) (sh_far 12 (.inl rfl) a F hF32) (sh_far 13 (.inr rfl) a F hF32) w
  rw [hN] at this
  exact this
end Go.Proofs.Ytflcaokjcgadgaa
