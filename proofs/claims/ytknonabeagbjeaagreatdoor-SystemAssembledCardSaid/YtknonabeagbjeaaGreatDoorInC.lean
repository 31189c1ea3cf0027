/- Layer 7: instructions as words, and names; walked. -/
import Derived.Test.YtknonabeagbjeaaGreatDoorInB
namespace Go.Proofs.YtknonabeagbjeaaGreatDoor
open Go.RowKit

theorem Blk.out4 {w W : World} {g : Nat} {t : TypeId} {z0 z1 z2 z3 : Value} (h : Blk W g t #[z0, z1, z2, z3]) (hb : Below w.heap.size w W) (hg : w.heap.size ≤ g) (v0 v1 v2 v3 : Value) :
    ∃ W4, W4 = (((W.setCell ⟨g, 0, none⟩ v0).setCell ⟨g, 1, none⟩ v1).setCell ⟨g, 2, none⟩ v2).setCell ⟨g, 3, none⟩ v3 ∧ Blk W4 g t #[v0, v1, v2, v3] ∧ Below w.heap.size w W4 := by
  refine ⟨_, rfl, ?_, (((hb.setCell (p := ⟨g, 0, none⟩) hg _).setCell (p := ⟨g, 1, none⟩) hg _).setCell (p := ⟨g, 2, none⟩) hg _).setCell (p := ⟨g, 3, none⟩) hg _⟩
  have h4 := (((h.set 0 v0).set 1 v1).set 2 v2).set 3 v3
  simpa only [List.setIfInBounds_toArray, List.set_cons_zero, List.set_cons_succ] using h4
theorem or_ints (x y : Int) (s : Nat) (h0 : 0 ≤ x) (h1 : x < 4294967296) (h2 : x.toNat % 2 ^ s = 0) (h3 : 0 ≤ y) (h4 : y.toNat < 2 ^ s) (h5 : y < 4294967296) : bits .or .u32 x y = x + y := by
  obtain ⟨X, rfl⟩ := Int.eq_ofNat_of_zero_le h0
  obtain ⟨Y, rfl⟩ := Int.eq_ofNat_of_zero_le h3
  rw [Int.toNat_natCast] at h2 h4
  rw [u32_or_nat _ _ (by omega) (by omega), nat_join s _ _ h2 h4]
  omega

set_option maxHeartbeats 1000000 in
theorem inst_Encode_bad (op a b c : Int) (w : World) (h : rightI op a b c = false) :
    Calls Tryz.prog 71 #[.agg #[.int .i64 op, .int .i64 a, .int .i64 b, .int .i64 c]] w fun e w' => e = .returned (.tuple #[.int .u32 0, .int .i64 1]) ∧ Below w.heap.size w w' := by
  have HR := Lib.hid h
  have hI := Ib.new w op a b c
  clear h
  go_enter Tryz.func71, Tryz.ntmps71
  go_wp2_with fail
  refine (inst_Right op a b c _).mono ?_
  rw [HR.out]
  rintro e w1 ⟨rfl, hb⟩
  go_wp2_with fail
  go_returns
  exact ⟨rfl, (hI.below hb).bel⟩
set_option maxHeartbeats 1000000 in
theorem inst_Encode (op a b c : Int) (w : World) (h : rightI op a b c = true) :
    Calls Tryz.prog 71 #[.agg #[.int .i64 op, .int .i64 a, .int .i64 b, .int .i64 c]] w fun e w' => e = .returned (.tuple #[.int .u32 (encI op a b c), .int .i64 0]) ∧ Below w.heap.size w w' := by
  obtain ⟨⟨o1, o2⟩, ⟨a1, a2⟩, ⟨b1, b2⟩, ⟨c1, c2⟩⟩ := right_bounds h
  have HR := Lib.hid h
  have hI := Ib.new w op a b c
  have r1 : bits .or .u32 (op * 16777216) (a * 1048576) = op * 16777216 + a * 1048576 := or_ints _ _ 24 (by omega) (by omega) (by omega) (by omega) (by omega) (by omega)
  have r2 : bits .or .u32 (op * 16777216 + a * 1048576) (b * 65536) = op * 16777216 + a * 1048576 + b * 65536 := or_ints _ _ 20 (by omega) (by omega) (by omega) (by omega) (by omega) (by omega)
  have r3 : bits .or .u32 (op * 16777216 + a * 1048576 + b * 65536) c = op * 16777216 + a * 1048576 + b * 65536 + c := or_ints _ _ 16 (by omega) (by omega) (by omega) (by omega) (by omega) (by omega)
  clear h
  go_enter Tryz.func71, Tryz.ntmps71
  go_wp2_with fail
  refine (inst_Right op a b c _).mono ?_
  rw [HR.out]
  rintro e w1 ⟨rfl, hb⟩
  have h1 := hI.below hb
  obtain ⟨i0, i1, i2, i3⟩ := h1.all
  clear hb hI
  go_wp2_with fail
  go_returns
  exact ⟨rfl, h1.bel⟩

/-- The fields of a word. -/
def opD (x : UInt32) : Int := (x.toNat : Int) / 16777216
def aD (x : UInt32) : Int := (x.toNat : Int) / 1048576 % 16
def bD (x : UInt32) : Int := (x.toNat : Int) / 65536 % 16
def cD (x : UInt32) : Int := (x.toNat : Int) % 65536
theorem and_ints (X m : Nat) (hx : X < 4294967296) (hm : 2 ^ m ≤ 4294967296) : bits .and .u32 (X : Int) ((2 ^ m - 1 : Nat) : Int) = ((X % 2 ^ m : Nat) : Int) := by
  rw [u32_and_nat _ _ hx (by omega), Nat.and_two_pow_sub_one_eq_mod]
theorem dec_enc (x : UInt32) : encI (opD x) (aD x) (bD x) (cD x) = x.toNat := by
  have := x.toNat_lt
  unfold encI opD aD bD cD
  omega
theorem and_a (x : UInt32) : bits .and .u32 ((x.toNat : Int) / 1048576) 15 = (x.toNat : Int) / 1048576 % 16 := by
  have := x.toNat_lt
  have h := and_ints (x.toNat / 1048576) 4 (by omega) (by decide)
  rw [show (((x.toNat / 1048576 : Nat)) : Int) = (x.toNat : Int) / 1048576 by omega] at h
  exact h.trans (by omega)
theorem and_b (x : UInt32) : bits .and .u32 ((x.toNat : Int) / 65536) 15 = (x.toNat : Int) / 65536 % 16 := by
  have := x.toNat_lt
  have h := and_ints (x.toNat / 65536) 4 (by omega) (by decide)
  rw [show (((x.toNat / 65536 : Nat)) : Int) = (x.toNat : Int) / 65536 by omega] at h
  exact h.trans (by omega)
theorem and_c (x : UInt32) : bits .and .u32 (x.toNat : Int) 65535 = (x.toNat : Int) % 65536 := by
  have := x.toNat_lt
  have h := and_ints x.toNat 16 (by omega) (by decide)
  exact h.trans (by omega)
/-- Does a word be an instruction? -/
def decB (x : UInt32) : Bool := rightI (opD x) (aD x) (bD x) (cD x)

set_option maxHeartbeats 2000000 in
theorem inst_Decode_ok (x : UInt32) (w : World) (h : decB x = true) :
    Calls Tryz.prog 26 #[.int .u32 x.toNat] w fun e w' => e = .returned (.tuple #[.agg #[.int .i64 (opD x), .int .i64 (aD x), .int .i64 (bD x), .int .i64 (cD x)], .int .i64 0]) ∧ Below w.heap.size w w' := by
  have hx := x.toNat_lt
  have K : ∀ W : World, Calls Tryz.prog 46 #[.agg #[.int .i64 ((x.toNat : Int) / 16777216), .int .i64 ((x.toNat : Int) / 1048576 % 16), .int .i64 ((x.toNat : Int) / 65536 % 16), .int .i64 ((x.toNat : Int) % 65536)]] W fun e w' => e = .returned (.bool true) ∧ Below W.heap.size W w' := fun W => by
    have h2 := inst_Right (opD x) (aD x) (bD x) (cD x) W
    unfold decB at h
    rw [h] at h2
    exact h2
  have KH := Lib.hid K
  have r1 := and_a x
  have r2 := and_b x
  have r3 := and_c x
  clear K h
  unfold opD aD bD cD
  go_enter Tryz.func26, Tryz.ntmps26
  go_wp2_with fail
  refine (KH.out _).mono ?_
  rintro e w1 ⟨rfl, hb⟩
  have hZ := ((Blk.new w 70 #[.int .i64 0, .int .i64 0, .int .i64 0, .int .i64 0]).alloc (.cells #[.int .i64 ((x.toNat : Int) / 16777216), .int .i64 ((x.toNat : Int) / 1048576 % 16), .int .i64 ((x.toNat : Int) / 65536 % 16), .int .i64 ((x.toNat : Int) % 65536)] 70)).below hb (by simp; omega)
  have hX := Blk.new (w.alloc (.cells #[.int .i64 0, .int .i64 0, .int .i64 0, .int .i64 0] 70)) 70 #[.int .i64 ((x.toNat : Int) / 16777216), .int .i64 ((x.toNat : Int) / 1048576 % 16), .int .i64 ((x.toNat : Int) / 65536 % 16), .int .i64 ((x.toNat : Int) % 65536)]
  replace hX := hX.below hb hX.lt
  have bel := below_new (below_new hb)
  have hsz : (w.alloc (.cells #[.int .i64 0, .int .i64 0, .int .i64 0, .int .i64 0] 70)).heap.size = w.heap.size + 1 := by simp
  rw [hsz] at hX
  clear hb hsz
  have x0 := hX.cell 0
  have x1 := hX.cell 1
  have x2 := hX.cell 2
  have x3 := hX.cell 3
  have z0 := hZ.cell 0
  have z1 := hZ.cell 1
  have z2 := hZ.cell 2
  have z3 := hZ.cell 3
  have y0 := hZ.frozen 0
  have y1 := hZ.frozen 1
  have y2 := hZ.frozen 2
  have y3 := hZ.frozen 3
  go_wp2_with fail
  obtain ⟨W4, hW4, hR4, hb4⟩ := hZ.out4 bel (Nat.le_refl _) (.int .i64 ((x.toNat : Int) / 16777216)) (.int .i64 ((x.toNat : Int) / 1048576 % 16)) (.int .i64 ((x.toNat : Int) / 65536 % 16)) (.int .i64 ((x.toNat : Int) % 65536))
  rw [← hW4]
  clear x0 x1 x2 x3 z0 z1 z2 z3 y0 y1 y2 y3 hW4
  have q0 := hR4.cell 0
  have q1 := hR4.cell 1
  have q2 := hR4.cell 2
  have q3 := hR4.cell 3
  refine bodyPost_ret (by simp [results, Tryz.results26, go_sem, q0, q1, q2, q3]; try rfl) rfl ?_
  exact ⟨rfl, hb4⟩

set_option maxHeartbeats 2000000 in
theorem inst_Decode_bad (x : UInt32) (w : World) (h : decB x = false) :
    Calls Tryz.prog 26 #[.int .u32 x.toNat] w fun e w' => e = .returned (.tuple #[.agg #[.int .i64 0, .int .i64 0, .int .i64 0, .int .i64 0], .int .i64 7]) ∧ Below w.heap.size w w' := by
  have hx := x.toNat_lt
  have K : ∀ W : World, Calls Tryz.prog 46 #[.agg #[.int .i64 ((x.toNat : Int) / 16777216), .int .i64 ((x.toNat : Int) / 1048576 % 16), .int .i64 ((x.toNat : Int) / 65536 % 16), .int .i64 ((x.toNat : Int) % 65536)]] W fun e w' => e = .returned (.bool false) ∧ Below W.heap.size W w' := fun W => by
    have h2 := inst_Right (opD x) (aD x) (bD x) (cD x) W
    unfold decB at h
    rw [h] at h2
    exact h2
  have KH := Lib.hid K
  have r1 := and_a x
  have r2 := and_b x
  have r3 := and_c x
  clear K h
  go_enter Tryz.func26, Tryz.ntmps26
  go_wp2_with fail
  refine (KH.out _).mono ?_
  rintro e w1 ⟨rfl, hb⟩
  have hZ := ((Blk.new w 70 #[.int .i64 0, .int .i64 0, .int .i64 0, .int .i64 0]).alloc (.cells #[.int .i64 ((x.toNat : Int) / 16777216), .int .i64 ((x.toNat : Int) / 1048576 % 16), .int .i64 ((x.toNat : Int) / 65536 % 16), .int .i64 ((x.toNat : Int) % 65536)] 70)).below hb (by simp; omega)
  have bel := below_new (below_new hb)
  clear hb
  have z0 := hZ.cell 0
  have z1 := hZ.cell 1
  have z2 := hZ.cell 2
  have z3 := hZ.cell 3
  have y0 := hZ.frozen 0
  have y1 := hZ.frozen 1
  have y2 := hZ.frozen 2
  have y3 := hZ.frozen 3
  go_wp2_with fail
  obtain ⟨W4, hW4, hR4, hb4⟩ := hZ.out4 bel (Nat.le_refl _) (.int .i64 0) (.int .i64 0) (.int .i64 0) (.int .i64 0)
  rw [← hW4]
  clear z0 z1 z2 z3 y0 y1 y2 y3 hW4
  have q0 := hR4.cell 0
  have q1 := hR4.cell 1
  have q2 := hR4.cell 2
  have q3 := hR4.cell 3
  refine bodyPost_ret (by simp [results, Tryz.results26, go_sem, q0, q1, q2, q3]; try rfl) rfl ?_
  exact ⟨rfl, hb4⟩

theorem str_ne {N s : ByteArray} (h : N ≠ s) : (N.toList == s.toList) = false := by
  rw [beq_eq_false_iff_ne, Lib.toList_data, Lib.toList_data]
  exact fun e => h (ba_inj e)

set_option maxHeartbeats 2000000 in
theorem inst_Op (s : ByteArray) (w : World) :
    Calls Tryz.prog 21 #[.string s] w fun e w' => e = .returned (.int .i64 (opI s.data.toList)) ∧ Below w.heap.size w w' := by
  go_enter Tryz.func21, Tryz.ntmps21
  go_wp2_with fail
  go_loopw [3] (fun i wr => ∃ k : Nat, 1 ≤ k ∧ k ≤ 28 ∧ i = .int .i64 k ∧ Hid (∀ j : Nat, 1 ≤ j → j < k → nameI (j : Int) ≠ s.data.toList) ∧ Below w.heap.size w wr) (fun i _ => 28 - (intOf i).toNat)
  case atStart => exact ⟨1, by omega, by omega, rfl, fun j h1 h2 => absurd h1 (by omega), Below.refl _ _⟩
  case round =>
    obtain ⟨k, hk1, hk2, rfl, HN, hbel⟩ := hrel
    by_cases hlt : k ≤ 27
    · obtain ⟨N, hN⟩ : ∃ N : ByteArray, (⟨(nameI (k : Int)).toArray⟩ : ByteArray) = N := ⟨_, rfl⟩
      have hNl : Hid (N.data.toList = nameI (k : Int)) := by rw [← hN]; rfl
      have K := inst_shapeOf (k : Int)
      rw [hN] at K
      have hfld := shape_name N (shA (k : Int)) (shB (k : Int)) (shC (k : Int))
      have KH := Lib.hid K
      have K2 := Lib.hid (inst_known (k : Int))
      have hio : isOp (k : Int) := (isOp_nat k).2 ⟨hk1, hlt⟩
      have HIO := Lib.hid hio
      clear K hN hio
      by_cases heq : N = s
      · have hR : opI s.data.toList = k := opI_hit k hk1 hlt (by rw [← hNl.out, heq])
        have HR := Lib.hid hR
        subst heq
        clear hR
        go_wp2_with fail
        refine (K2.out _).mono ?_
        rw [decide_eq_true HIO.out]
        rintro e w1 ⟨rfl, hb1⟩
        have bel1 := hbel.trans (hb1.mono hbel.size)
        clear hb1
        go_wp2_with fail
        refine (KH.out _).mono ?_
        rintro e w2 ⟨rfl, hb2⟩
        have bel2 := bel1.trans (hb2.mono bel1.size)
        clear hb2
        go_wp2_with fail
        go_returns
        exact ⟨ret_int (by rw [HR.out]), bel2⟩
      · have hne := str_ne heq
        have HQ : Hid (nameI (k : Int) ≠ s.data.toList) := fun e => heq (ba_inj (by rw [hNl.out, e]))
        clear heq
        go_wp2_with fail
        refine (K2.out _).mono ?_
        rw [decide_eq_true HIO.out]
        rintro e w1 ⟨rfl, hb1⟩
        have bel1 := hbel.trans (hb1.mono hbel.size)
        clear hb1
        go_wp2_with fail
        refine (KH.out _).mono ?_
        rintro e w2 ⟨rfl, hb2⟩
        have bel2 := bel1.trans (hb2.mono bel1.size)
        clear hb2
        go_wp2_with fail
        go_roundw
        case rel =>
          refine ⟨k + 1, by omega, by omega, rfl, fun j h1 h2 => ?_, bel2⟩
          by_cases h : j = k
          · subst h; exact HQ.out
          · exact HN.out j h1 (by omega)
        case measure => simp [intOf]; omega
    · obtain rfl : k = 28 := by omega
      have hR : opI s.data.toList = 0 := opI_miss (fun j h1 h2 => HN.out j h1 (by omega))
      have HR := Lib.hid hR
      clear hR
      go_wp2_with fail
      go_returns
      exact ⟨ret_int (by rw [HR.out]), hbel⟩
end Go.Proofs.YtknonabeagbjeaaGreatDoor
