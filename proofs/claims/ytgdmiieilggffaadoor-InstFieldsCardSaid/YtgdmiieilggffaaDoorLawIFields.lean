/- The law InstFields, walked. -/
import Derived.Test.YtgdmiieilggffaaDoorLawINames
import Derived.Test.YtgdmiieilggffaaDoorInY
import Derived.Test.YtgdmiieilggffaaDoorRefC
namespace Go.Proofs.YtgdmiieilggffaaDoor
open Go.RowKit

set_option maxHeartbeats 2000000 in
theorem ifields_bad (x : UInt32) (y : UInt8) (w : World) (hp : Pow10 w) (hd : decB x = false) :
    Calls Tryd.prog 6 #[.int .u32 x.toNat, .int .u8 y.toNat] w fun e w' => e = .returned (.bool true) ∧ Below w.heap.size w w' := by
  have KA := Lib.hid (in_alive w hp)
  have KD := Lib.hid (fun W => inst_Decode_bad x W hd)
  clear hp hd
  go_enter Tryd.func6, Tryd.ntmps6
  go_wp2_with fail
  refine KA.out.mono ?_
  rintro e w1 ⟨rfl, b1⟩
  go_wp2_with fail
  refine (KD.out _).mono ?_
  rintro e w2 ⟨rfl, hb2⟩
  have b2 := below_tail b1 hb2
  have b3 := b2.alloc b2.size (.cells #[.int .i64 0, .int .i64 0, .int .i64 0, .int .i64 0] 23)
  clear b1 hb2
  go_wp2_with fail
  go_returns
  exact ⟨rfl, b3⟩

set_option maxHeartbeats 4000000 in
theorem ifields_walk_ok (x v : UInt32) (y : UInt8) (P : ByteArray) (k : Nat) (r : Bool) (w : World) (hp : Pow10 w) (hk : k < 24) (hky : (y.toNat : Int) % 24 = k) (hPs : P.size ≤ 3)
    (hch : ∀ j (h : j < P.data.toList.length), P.data.toList[j] = 97 ∨ P.data.toList[j] = 98 ∨ P.data.toList[j] = 99 ∨ P.data.toList[j] = 114)
    (hr : Hid (thereB k P.data.toList = r)) (hd : decB x = true)
    (hP : Hid (∀ W, Calls Tryd.prog 19 #[.int .i64 ((x.toNat : Int) / 16777216)] W fun e w' => e = .returned (.string P) ∧ W = w'))
    (KX : Hid (∀ W, Calls Tryd.prog 18 #[.int .i64 11, .int .u32 x.toNat, .int .u32 ((2 : Int) ^ k % 4294967296)] W fun e w' => e = .returned (.tuple #[.int .u32 v.toNat, .int .i64 0]) ∧ Below W.heap.size W w'))
    (KV : Hid (∀ W, Calls Tryd.prog 16 #[.int .u32 v.toNat] W fun e w' => ∃ a b c d : Int, ∃ q : Int, e = .returned (.tuple #[.agg #[.int .i64 a, .int .i64 b, .int .i64 c, .int .i64 d], .int .i64 q]) ∧ (q == 0) = r ∧ Below W.heap.size W w')) :
    Calls Tryd.prog 6 #[.int .u32 x.toNat, .int .u8 y.toNat] w fun e w' => e = .returned (.bool true) ∧ Below w.heap.size w w' := by
  have KA := Lib.hid (in_alive w hp)
  have k1 := fun W => inst_Decode_ok x W hd
  unfold opD aD bD cD at k1
  have KD := Lib.hid k1
  have hx := x.toNat_lt
  have HC := Lib.hid hch
  have ea := and_a x
  have eb := and_b x
  have ec := and_c x
  clear hp hd k1 hch
  go_enter Tryd.func6, Tryd.ntmps6
  go_wp2_with fail
  refine KA.out.mono ?_
  rintro e w1 ⟨rfl, b1⟩
  go_wp2_with fail
  refine (KD.out _).mono ?_
  rintro e w2 ⟨rfl, hb2⟩
  have b2 := below_tail b1 hb2
  have b3 := b2.alloc b2.size (.cells #[.int .i64 ((x.toNat : Int) / 16777216), .int .i64 ((x.toNat : Int) / 1048576 % 16), .int .i64 ((x.toNat : Int) / 65536 % 16), .int .i64 ((x.toNat : Int) % 65536)] 23)
  have hB := Blk.new w2 23 #[.int .i64 ((x.toNat : Int) / 16777216), .int .i64 ((x.toNat : Int) / 1048576 % 16), .int .i64 ((x.toNat : Int) / 65536 % 16), .int .i64 ((x.toNat : Int) % 65536)]
  clear b1 hb2
  have c0 := hB.cell 0
  have c1 := hB.cell 1
  have c2 := hB.cell 2
  have c3 := hB.cell 3
  go_wp2_with fail
  refine (KX.out _).mono ?_
  rintro e w4 ⟨rfl, hb4⟩
  have b4 := below_tail b3 hb4
  have hB4 := hB.below hb4 hB.lt
  clear c0 c1 c2 c3 b2 b3 hB hb4
  have c0 := hB4.cell 0
  go_wp2_with fail
  refine (hP.out _).mono ?_
  rintro e w5 ⟨rfl, rfl⟩
  clear c0 hB4 ea eb ec
  go_wp2_with fail
  go_loopw [11, 12] (fun tv iv wr => ∃ (n : Nat) (z : Bool), n ≤ P.size ∧ iv = .int .i64 n ∧ tv = .bool z ∧ Hid (z = thereB k (P.data.toList.take n)) ∧ Below w.heap.size w wr) (fun _ iv _ => P.size - (intOf iv).toNat)
  case atStart => exact ⟨0, false, Nat.zero_le _, rfl, rfl, rfl, b4⟩
  case round =>
    obtain ⟨n, z, hn, rfl, rfl, HZ, hbel⟩ := hrel
    by_cases hlt : n < P.size
    · obtain ⟨c, hc⟩ : ∃ c, P[n] = c := ⟨_, rfl⟩
      have hcL : P.data.toList[n]'hlt = c := hc
      have hcc := HC.out n hlt
      rw [hcL] at hcc
      have hltI : (n : Int) < P.size := by omega
      have hn0 : (0 : Int) ≤ n := by omega
      have HS : Hid (thereB k (P.data.toList.take (n + 1)) = (z || inF k c)) := by
        unfold Hid
        rw [HZ.out, ← there_snoc, ← hcL]
        exact congrArg (thereB k) (List.take_succ_eq_append_getElem hlt)
      clear hcL HZ
      rcases hcc with rfl | rfl | rfl | rfl
      · cases z with
        | true =>
          go_wp2_with fail
          go_roundw
          case rel => exact ⟨n + 1, true, hlt, rfl, rfl, (by rw [HS.out]; rfl), hbel⟩
          case measure => simp [intOf]; omega
        | false =>
          by_cases hh : 20 ≤ k
          · have g1 : ((20 : Int) ≤ k) = True := eq_true (by omega)
            have HR : Hid (inF k 97 = true) := decide_eq_true hh
            clear hh
            go_wp2_with fail
            go_roundw
            case rel => exact ⟨n + 1, true, hlt, rfl, rfl, (by rw [HS.out]; rw [HR.out]; rfl), hbel⟩
            case measure => simp [intOf]; omega
          · have g1 : ((20 : Int) ≤ k) = False := eq_false (by omega)
            have HR : Hid (inF k 97 = false) := decide_eq_false hh
            clear hh
            go_wp2_with fail
            go_roundw
            case rel => exact ⟨n + 1, false, hlt, rfl, rfl, (by rw [HS.out]; rw [HR.out]; rfl), hbel⟩
            case measure => simp [intOf]; omega
      · cases z with
        | true =>
          go_wp2_with fail
          go_roundw
          case rel => exact ⟨n + 1, true, hlt, rfl, rfl, (by rw [HS.out]; rfl), hbel⟩
          case measure => simp [intOf]; omega
        | false =>
          by_cases h16 : 16 ≤ k
          · by_cases h20 : k < 20
            · have g1 : (16 : Int) ≤ k := by omega
              have g2 : ((k : Int) < 20) = True := eq_true (by omega)
              have HR : Hid (inF k 98 = true) := ((decide_eq_true ⟨h16, h20⟩ : decide (16 ≤ k ∧ k < 20) = true).symm).symm
              clear h16 h20
              go_wp2_with fail
              go_roundw
              case rel => exact ⟨n + 1, true, hlt, rfl, rfl, (by rw [HS.out]; rw [HR.out]; rfl), hbel⟩
              case measure => simp [intOf]; omega
            · have g1 : (16 : Int) ≤ k := by omega
              have g2 : ((k : Int) < 20) = False := eq_false (by omega)
              have HR : Hid (inF k 98 = false) := ((decide_eq_false (fun h => h20 h.2) : decide (16 ≤ k ∧ k < 20) = false).symm).symm
              clear h16 h20
              go_wp2_with fail
              go_roundw
              case rel => exact ⟨n + 1, false, hlt, rfl, rfl, (by rw [HS.out]; rw [HR.out]; rfl), hbel⟩
              case measure => simp [intOf]; omega
          · have g1 : ((16 : Int) ≤ k) = False := eq_false (by omega)
            have HR : Hid (inF k 98 = false) := decide_eq_false (fun h => h16 h.1)
            clear h16
            go_wp2_with fail
            go_roundw
            case rel => exact ⟨n + 1, false, hlt, rfl, rfl, (by rw [HS.out]; rw [HR.out]; rfl), hbel⟩
            case measure => simp [intOf]; omega
      · cases z with
        | true =>
          go_wp2_with fail
          go_roundw
          case rel => exact ⟨n + 1, true, hlt, rfl, rfl, (by rw [HS.out]; rfl), hbel⟩
          case measure => simp [intOf]; omega
        | false =>
          by_cases hh : k < 16
          · have g1 : ((k : Int) < 16) = True := eq_true (by omega)
            have HR : Hid (inF k 99 = true) := decide_eq_true hh
            clear hh
            go_wp2_with fail
            go_roundw
            case rel => exact ⟨n + 1, true, hlt, rfl, rfl, (by rw [HS.out]; rw [HR.out]; rfl), hbel⟩
            case measure => simp [intOf]; omega
          · have g1 : ((k : Int) < 16) = False := eq_false (by omega)
            have HR : Hid (inF k 99 = false) := decide_eq_false hh
            clear hh
            go_wp2_with fail
            go_roundw
            case rel => exact ⟨n + 1, false, hlt, rfl, rfl, (by rw [HS.out]; rw [HR.out]; rfl), hbel⟩
            case measure => simp [intOf]; omega
      · cases z with
        | true =>
          go_wp2_with fail
          go_roundw
          case rel => exact ⟨n + 1, true, hlt, rfl, rfl, (by rw [HS.out]; rfl), hbel⟩
          case measure => simp [intOf]; omega
        | false =>
          by_cases hh : k < 4
          · have g1 : ((k : Int) < 4) = True := eq_true (by omega)
            have HR : Hid (inF k 114 = true) := decide_eq_true hh
            clear hh
            go_wp2_with fail
            go_roundw
            case rel => exact ⟨n + 1, true, hlt, rfl, rfl, (by rw [HS.out]; rw [HR.out]; rfl), hbel⟩
            case measure => simp [intOf]; omega
          · have g1 : ((k : Int) < 4) = False := eq_false (by omega)
            have HR : Hid (inF k 114 = false) := decide_eq_false hh
            clear hh
            go_wp2_with fail
            go_roundw
            case rel => exact ⟨n + 1, false, hlt, rfl, rfl, (by rw [HS.out]; rw [HR.out]; rfl), hbel⟩
            case measure => simp [intOf]; omega
    · obtain rfl : n = P.size := by omega
      have HR : Hid (z = r) := by
        unfold Hid
        rw [HZ.out, ← hr.out, List.take_of_length_le (Nat.le_refl P.size)]
      clear HZ
      go_wp2_with fail
      refine (KV.out _).mono ?_
      rintro e w6 ⟨a1, a2, a3, a4, q, rfl, hq, hb6⟩
      have b6 := below_tail hbel hb6
      have b7 := b6.alloc b6.size (.cells #[.int .i64 a1, .int .i64 a2, .int .i64 a3, .int .i64 a4] 23)
      have HR2 := HR.out
      subst HR2
      clear HR hr hb6 b6
      go_wp2_with fail
      go_returns
      exact ⟨ret_bool (by simp), b7⟩

theorem ifields_walk (x : UInt32) (y : UInt8) (w : World) (hp : Pow10 w) :
    Calls Tryd.prog 6 #[.int .u32 x.toNat, .int .u8 y.toNat] w fun e w' => e = .returned (.bool true) ∧ Below w.heap.size w w' := by
  cases hd : decB x with
  | false => exact ifields_bad x y w hp hd
  | true =>
    have hy := y.toNat_lt
    have hk : y.toNat % 24 < 24 := Nat.mod_lt _ (by decide)
    have hpw : 2 ^ (y.toNat % 24) < 4294967296 := by
      have := Nat.pow_lt_pow_right (show 1 < 2 by decide) (show y.toNat % 24 < 32 by omega)
      exact this
    have hs : (UInt32.ofNat (2 ^ (y.toNat % 24))).toNat = 2 ^ (y.toNat % 24) := by
      rw [UInt32.toNat_ofNat']
      exact Nat.mod_eq_of_lt hpw
    have hv : (x ^^^ UInt32.ofNat (2 ^ (y.toNat % 24))).toNat = x.toNat ^^^ 2 ^ (y.toNat % 24) := by rw [UInt32.toNat_xor, hs]
    have hio : isOp (opD x) := (right_bounds hd).1
    have hpI : partsI (opD x) = partL (shA (opD x)) (shB (opD x)) (shC (opD x)) := if_pos hio
    have hC := shC_cases (opD x)
    have hPs : (⟨(partsI (opD x)).toArray⟩ : ByteArray).size ≤ 3 := by
      have h9 := (part_has (shA (opD x)) (shB (opD x)) (shC (opD x)) hC).2.2.2.2.2
      rw [← hpI] at h9
      exact h9
    refine ifields_walk_ok x (x ^^^ UInt32.ofNat (2 ^ (y.toNat % 24))) y ⟨(partsI (opD x)).toArray⟩ (y.toNat % 24) (decB (x ^^^ UInt32.ofNat (2 ^ (y.toNat % 24)))) w hp hk (by omega) hPs
      (fun j hj => part_chars (shA (opD x)) (shB (opD x)) (shC (opD x)) hC _ (by rw [← hpI]; exact List.getElem_mem hj)) (turned_right x _ _ hk hv hd).symm hd (ref_Parts (opD x)) ?_ ?_
    · intro W
      have h9 := ref_Apply 11 x (UInt32.ofNat (2 ^ (y.toNat % 24))) W
      rw [hs] at h9
      have e : ((2 ^ (y.toNat % 24) : Nat) : Int) = (2 : Int) ^ (y.toNat % 24) % 4294967296 := by
        have h10 : ((2 ^ (y.toNat % 24) : Nat) : Int) = (2 : Int) ^ (y.toNat % 24) := by rw [Int.natCast_pow]; rfl
        rw [← h10]
        omega
      rw [e] at h9
      exact h9
    · intro W
      cases hq : decB (x ^^^ UInt32.ofNat (2 ^ (y.toNat % 24))) with
      | true => exact (inst_Decode_ok _ W hq).mono fun _ _ h => ⟨_, _, _, _, _, h.1, rfl, h.2⟩
      | false => exact (inst_Decode_bad _ W hq).mono fun _ _ h => ⟨_, _, _, _, _, h.1, rfl, h.2⟩
end Go.Proofs.YtgdmiieilggffaaDoor
