/- Layer 7: instructions as words, and names; walked. -/
import Derived.Test.YthfdjfgmgoafnaaDoorInB
namespace Go.Proofs.YthfdjfgmgoafnaaDoor
open Go.RowKit

theorem Blk.out4 {w W : World} {g : Nat} {t : TypeId} {z0 z1 z2 z3 : Value} (h : Blk W g t #[z0, z1, z2, z3]) (hb : Below w.heap.size w W) (hg : w.heap.size ≤ g) (v0 v1 v2 v3 : Value) :
    ∃ W4, W4 = (((W.setCell ⟨g, 0, none⟩ v0).setCell ⟨g, 1, none⟩ v1).setCell ⟨g, 2, none⟩ v2).setCell ⟨g, 3, none⟩ v3 ∧ Blk W4 g t #[v0, v1, v2, v3] ∧ Below w.heap.size w W4 := by
  refine ⟨_, rfl, ?_, (((hb.setCell (p := ⟨g, 0, none⟩) hg _).setCell (p := ⟨g, 1, none⟩) hg _).setCell (p := ⟨g, 2, none⟩) hg _).setCell (p := ⟨g, 3, none⟩) hg _⟩
  have h4 := (((h.set 0 v0).set 1 v1).set 2 v2).set 3 v3
  simpa only [List.setIfInBounds_toArray, List.set_cons_zero, List.set_cons_succ] using h4
theorem or_ints (x y : Int) (s : Nat) (h0 : 0 ≤ x) (h1 : x < 4294967296) (h2 : x.toNat % 2 ^ s = 0) (h3 : 0 ≤ y) (h4 : y.toNat < 2 ^ s) (h5 : y < 4294967296) : bits .or .u32 x y = x + y := by
  obtain ⟨X, rfl⟩ := Int.eq_ofNat_of_zero_le h0
  obtain ⟨Y, rfl⟩ := Int.eq_ofNat_of_zero_le h3
  rw [Int.toNat_natCast] at h2 h4
  rw [u32_or_nat _ _ (by omega) (by omega), nat_join s _ _ h2 h4]
  omega

set_option maxHeartbeats 1000000 in
theorem inst_Encode_bad (op a b c : Int) (w : World) (h : rightI op a b c = false) :
    Calls Tryd.prog 28 #[.agg #[.int .i64 op, .int .i64 a, .int .i64 b, .int .i64 c]] w fun e w' => e = .returned (.tuple #[.int .u32 0, .int .i64 1]) ∧ Below w.heap.size w w' := by
  have HR := Lib.hid h
  have hI := Ib.new w op a b c
  clear h
  go_enter Tryd.func28, Tryd.ntmps28
  go_wp2_with fail
  refine (inst_Right op a b c _).mono ?_
  rw [HR.out]
  rintro e w1 ⟨rfl, hb⟩
  go_wp2_with fail
  go_returns
  exact ⟨rfl, (hI.below hb).bel⟩
set_option maxHeartbeats 1000000 in
theorem inst_Encode (op a b c : Int) (w : World) (h : rightI op a b c = true) :
    Calls Tryd.prog 28 #[.agg #[.int .i64 op, .int .i64 a, .int .i64 b, .int .i64 c]] w fun e w' => e = .returned (.tuple #[.int .u32 (encI op a b c), .int .i64 0]) ∧ Below w.heap.size w w' := by
  obtain ⟨⟨o1, o2⟩, ⟨a1, a2⟩, ⟨b1, b2⟩, ⟨c1, c2⟩⟩ := right_bounds h
  have HR := Lib.hid h
  have hI := Ib.new w op a b c
  have r1 : bits .or .u32 (op * 16777216) (a * 1048576) = op * 16777216 + a * 1048576 := or_ints _ _ 24 (by omega) (by omega) (by omega) (by omega) (by omega) (by omega)
  have r2 : bits .or .u32 (op * 16777216 + a * 1048576) (b * 65536) = op * 16777216 + a * 1048576 + b * 65536 := or_ints _ _ 20 (by omega) (by omega) (by omega) (by omega) (by omega) (by omega)
  have r3 : bits .or .u32 (op * 16777216 + a * 1048576 + b * 65536) c = op * 16777216 + a * 1048576 + b * 65536 + c := or_ints _ _ 16 (by omega) (by omega) (by omega) (by omega) (by omega) (by omega)
  clear h
  go_enter Tryd.func28, Tryd.ntmps28
  go_wp2_with fail
  refine (inst_Right op a b c _).mono ?_
  rw [HR.out]
  rintro e w1 ⟨rfl, hb⟩
  have h1 := hI.below hb
  obtain ⟨i0, i1, i2, i3⟩ := h1.all
  clear hb hI
  go_wp2_with fail
  go_returns
  exact ⟨rfl, h1.bel⟩

/-- The fields of a word. -/
def opD (x : UInt32) : Int := (x.toNat : Int) / 16777216
def aD (x : UInt32) : Int := (x.toNat : Int) / 1048576 % 16
def bD (x : UInt32) : Int := (x.toNat : Int) / 65536 % 16
def cD (x : UInt32) : Int := (x.toNat : Int) % 65536
theorem and_ints (X m : Nat) (hx : X < 4294967296) (hm : 2 ^ m ≤ 4294967296) : bits .and .u32 (X : Int) ((2 ^ m - 1 : Nat) : Int) = ((X % 2 ^ m : Nat) : Int) := by
  rw [u32_and_nat _ _ hx (by omega), Nat.and_two_pow_sub_one_eq_mod]
theorem dec_enc (x : UInt32) : encI (opD x) (aD x) (bD x) (cD x) = x.toNat := by
  have := x.toNat_lt
  unfold encI opD aD bD cD
  omega
theorem and_a (x : UInt32) : bits .and .u32 ((x.toNat : Int) / 1048576) 15 = (x.toNat : Int) / 1048576 % 16 := by
  have := x.toNat_lt
  have h := and_ints (x.toNat / 1048576) 4 (by omega) (by decide)
  rw [show (((x.toNat / 1048576 : Nat)) : Int) = (x.toNat : Int) / 1048576 by omega] at h
  exact h.trans (by omega)
theorem and_b (x : UInt32) : bits .and .u32 ((x.toNat : Int) / 65536) 15 = (x.toNat : Int) / 65536 % 16 := by
  have := x.toNat_lt
  have h := and_ints (x.toNat / 65536) 4 (by omega) (by decide)
  rw [show (((x.toNat / 65536 : Nat)) : Int) = (x.toNat : Int) / 65536 by omega] at h
  exact h.trans (by omega)
theorem and_c (x : UInt32) : bits .and .u32 (x.toNat : Int) 65535 = (x.toNat : Int) % 65536 := by
  have := x.toNat_lt
  have h := and_ints x.toNat 16 (by omega) (by decide)
  exact h.trans (by omega)
/-- Does a word be an instruction? -/
def decB (x : UInt32) : Bool := rightI (opD x) (aD x) (bD x) (cD x)

theorem str_ne {N s : ByteArray} (h : N ≠ s) : (N.toList == s.toList) = false := by
  rw [beq_eq_false_iff_ne, Lib.toList_data, Lib.toList_data]
  exact fun e => h (ba_inj e)

end Go.Proofs.YthfdjfgmgoafnaaDoor
