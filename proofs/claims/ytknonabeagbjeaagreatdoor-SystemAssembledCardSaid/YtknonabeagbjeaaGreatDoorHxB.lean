/- Layer 2: the laid table of digits; what a digit is worth, walked. -/
/- Layer 2: texts of bytes, and their reading, walked. -/
/- Layer 2: a text of digits is read, walked. -/
import Derived.Test.YtknonabeagbjeaaGreatDoorHx
import Derived.Test.YtknonabeagbjeaaGreatDoorInfo
namespace Go.Proofs.YtknonabeagbjeaaGreatDoor
open Go.RowKit

/-- The table of the small digits, as it was laid. -/
def Small (w : World) : Prop := 4 < w.heap.size ∧ ∀ i, i < 16 → w.cell? ⟨4, i, none⟩ = some (.int .u8 (smallN i : Nat))
theorem Small.below {B : Nat} {w w' : World} (h : Small w) (hb : Below B w w') (hB : 4 < B) : Small w' :=
  ⟨by have := hb.size; have := h.1; omega, fun i hi => (hb.cell (p := ⟨4, i, none⟩) hB).trans (h.2 i hi)⟩

set_option maxHeartbeats 1000000 in
theorem hex_value (c : UInt8) (w : World) (hT : Small w) :
    Calls Tryz.prog 97 #[.int .u8 c.toNat] w fun e w' => e = .returned (.int .i64 (digV c)) ∧ w = w' := by
  have hc8 := c.toNat_lt
  have hcase : (65 ≤ c.toNat ∧ c.toNat ≤ 70) ∨ (65 ≤ c.toNat ∧ ¬ c.toNat ≤ 70) ∨ ¬ 65 ≤ c.toNat := by omega
  rcases hcase with ⟨ha, hb⟩ | ⟨ha, hb⟩ | ha
  all_goals
    obtain ⟨L, hL⟩ : ∃ L, lowN c = L := ⟨_, rfl⟩
    have hlow : (lowN c : Int) = L := by rw [hL]
    have HL := Lib.hid hL
    clear hL
    go_enter Tryz.func97, Tryz.ntmps97
    go_wp2_with fail
    first
      | (have hl : (c.toNat : Int) + 32 = (L : Int) := by (rw [← hlow]; unfold lowN; split <;> omega)
         simp only [hl])
      | (have hl : (c.toNat : Int) = (L : Int) := by (rw [← hlow]; unfold lowN; split <;> omega)
         simp only [hl])
    clear hl hlow
    go_loop [12] (fun i => ∃ k : Nat, k ≤ 16 ∧ i = .int .i64 k ∧ ∀ i, i < k → smallN i ≠ L) (fun i => 16 - (intOf i).toNat)
    case atStart => exact ⟨0, by omega, rfl, fun i hi => absurd hi (by omega)⟩
    case round =>
      obtain ⟨k, hk, rfl, hno⟩ := hrel
      have HNO := Lib.hid hno
      clear hno
      by_cases hlt : k < 16
      · have hc := hT.2 k hlt
        have hkI : (k : Int) < 16 := by omega
        have hk0 : (0 : Int) ≤ k := by omega
        by_cases heq : smallN k = L
        · have hb : ((smallN k : Int) == (L : Int)) = true := by rw [heq]; exact beq_self_eq_true _
          have hd : digV c = k := dig_hit c k hlt (by rw [HL.out]; exact heq)
          have HD := Lib.hid hd
          clear hd heq
          go_wp2_with fail
          go_returns
          exact ⟨by rw [HD.out]; rfl, rfl⟩
        · have hb : ((smallN k : Int) == (L : Int)) = false := by rw [beq_eq_false_iff_ne]; omega
          go_wp2_with fail
          go_round
          case rel =>
            refine ⟨k + 1, hlt, rfl, fun i hi => ?_⟩
            by_cases h : i = k
            · subst h; exact heq
            · exact HNO.out i (by omega)
          case measure => simp [intOf]; omega
      · obtain rfl : k = 16 := by omega
        have hd : digV c = -1 := dig_miss c (by rw [HL.out]; exact HNO.out)
        have HD := Lib.hid hd
        clear hd
        go_wp2_with fail
        go_returns
        exact ⟨by rw [HD.out]; rfl, rfl⟩
end Go.Proofs.YtknonabeagbjeaaGreatDoor
namespace Go.Proofs.YtknonabeagbjeaaGreatDoor
open Go.RowKit

theorem and15 (x : UInt8) : bits .and .u8 (x.toNat : Int) 15 = (x.toNat : Int) % 16 := by
  have h := u8_and_nat x.toNat 15 x.toNat_lt (by decide)
  have h2 : x.toNat &&& 15 = x.toNat % 16 := Nat.and_two_pow_sub_one_eq_mod x.toNat 4
  rw [h2] at h
  exact h.trans (by omega)

end Go.Proofs.YtknonabeagbjeaaGreatDoor
namespace Go.Proofs.YtknonabeagbjeaaGreatDoor
open Go.RowKit

theorem or_nib_all : ∀ a, a < 16 → ∀ b, b < 16 → bits .or .i64 ((a * 16 : Nat) : Int) ((b : Nat) : Int) = ((a * 16 + b : Nat) : Int) := by decide +kernel
theorem or_nib (a b : Int) (h0 : 0 ≤ a) (h1 : a < 16) (h2 : 0 ≤ b) (h3 : b < 16) : bits .or .i64 (a * 16) b = a * 16 + b := by
  obtain ⟨A, rfl⟩ := Int.eq_ofNat_of_zero_le h0
  obtain ⟨B, rfl⟩ := Int.eq_ofNat_of_zero_le h2
  have := or_nib_all A (by omega) B (by omega)
  simpa using this
theorem nib_bv (a b : Int) (h0 : 0 ≤ a) (h1 : a < 16) (h2 : 0 ≤ b) (h3 : b < 16) : bv (UInt8.ofNat (a.toNat * 16 + b.toNat)) = .int .u8 (a * 16 + b) := by
  unfold bv
  rw [UInt8.toNat_ofNat']
  congr 1
  omega

set_option maxRecDepth 100000 in
set_option maxHeartbeats 1000000 in
theorem hex_Parse (s : ByteArray) (w : World) (hs : s.size ≤ 1000000000000) (hT : Small w) :
    Calls Tryz.prog 86 #[.string s] w fun e w' => (∃ t, e = .returned (.tuple #[.string t, .int .i64 ((parseI s.data.toList).2.1 : Nat), .int .i64 (parseE s.data.toList)]) ∧ Hid (t.data.toList = (parseI s.data.toList).1)) ∧ Below w.heap.size w w' := by
  go_enter Tryz.func86, Tryz.ntmps86
  go_wp2_with (at_make; refine wpList_make_row _ rfl _ _ 45 rfl w.heap.size 5 (.int .u8 0) 1 1 Tryz.underlying45 info_u8 _ _ _ (s.size / 2) rfl rfl (by omega) (by omega) (by omega) (Nat.le_refl _) ?_; intro v0 w0 hown0 hb0 hg0 hv0)
  go_loopw [5, 6, 7] (fun v h i wr => ∃ (k : Nat) (z : Int), k ≤ s.size ∧ i = .int .i64 k ∧ h = .int .i64 z ∧ Hid (∀ j (hj : j < s.data.toList.length), j < k → 0 ≤ digV s.data.toList[j]) ∧ Hid (k % 2 = 1 → ∃ hj : k - 1 < s.data.toList.length, z = digV (s.data.toList[k - 1]'hj)) ∧
    wr.ownsRow w.heap.size 5 1 v (k / 2) ((pairs (s.data.toList.take (2 * (k / 2)))).map bv) ∧ Below w.heap.size w wr) (fun _ _ i _ => s.size - (intOf i).toNat)
  case atStart => exact ⟨0, 0, Nat.zero_le _, rfl, rfl, fun j _ h => absurd h (by omega), fun h => absurd h (by omega), by simpa [pairs] using hown0, hb0⟩
  case round =>
    clear hown0 hb0 hg0 hv0
    obtain ⟨k, z, hk, rfl, rfl, HD, HZ, hown, hbel⟩ := hrel
    by_cases hlt : k < s.size
    · have hltL : k < s.data.toList.length := hlt
      obtain ⟨c, hc⟩ : ∃ c, s[k] = c := ⟨_, rfl⟩
      have hcL : s.data.toList[k] = c := hc
      have HC := Lib.hid hcL
      have hltI : (k : Int) < s.size := by omega
      have hk0 : (0 : Int) ≤ k := by omega
      have hsz := hbel.size
      clear hcL
      go_wp2_with fail
      refine (hex_value c _ (hT.below hbel hT.1)).mono ?_
      rintro e w1 ⟨rfl, rfl⟩
      by_cases hneg : digV c < 0
      · have hp : parseI s.data.toList = ([], k, false) := parse_bad hltL HD.out (by rw [HC.out]; exact hneg)
        have HP := Lib.hid hp
        clear hp
        go_wp2_with fail
        go_returns
        unfold parseE
        rw [HP.out]
        exact ⟨⟨⟨#[]⟩, rfl, Lib.hid rfl⟩, hbel⟩
      · have hd0 : 0 ≤ digV c := by omega
        have hd16 := digV_lt c
        have HD' : Hid (∀ j (hj : j < s.data.toList.length), j < k + 1 → 0 ≤ digV s.data.toList[j]) := by
          intro j hj hjk
          by_cases h : j = k
          · subst h; rw [HC.out]; exact hd0
          · exact HD.out j hj (by omega)
        by_cases hpar : k % 2 = 0
        · have hm : ((k : Int).tmod 2 == 0) = true := by rw [Int.tmod_eq_emod_of_nonneg hk0, beq_iff_eq]; omega
          have hm2 : (k : Int).tmod 2 = 0 := by rw [Int.tmod_eq_emod_of_nonneg hk0]; omega
          clear hneg
          go_wp2_with fail
          go_roundw
          case rel =>
            refine ⟨k + 1, _, hlt, rfl, rfl, HD', ?_, ?_, hbel⟩
            · exact fun _ => ⟨by simpa using hltL, by simp only [Nat.add_sub_cancel]; rw [HC.out]⟩
            · rw [show (k + 1) / 2 = k / 2 by omega]; exact hown
          case measure => simp [intOf]; omega
        · have hm : ((k : Int).tmod 2 == 0) = false := by rw [Int.tmod_eq_emod_of_nonneg hk0, beq_eq_false_iff_ne]; omega
          obtain ⟨hj1, hz⟩ := HZ.out (by omega)
          have hz0 : 0 ≤ z := by rw [hz]; exact HD.out _ hj1 (by omega)
          have hz16 : z < 16 := by rw [hz]; exact digV_lt _
          have HZ2 := Lib.hid hz
          have hor := or_nib z (digV c) hz0 hz16 hd0 hd16
          have hwz : IntKind.i64.wrap (z * 16) = z * 16 := IntWalk.i64_in _ (by omega)
          have hHS : Hid ((pairs (s.data.toList.take (2 * ((k + 1) / 2)))).map bv = (pairs (s.data.toList.take (2 * (k / 2)))).map bv ++ [.int .u8 (z * 16 + digV c)]) := by
            have h := pairs_snoc s.data.toList (k / 2) (by omega)
            have e1 : s.data.toList[2 * (k / 2)]'(by omega) = s.data.toList[k - 1]'hj1 := getElem_congr_idx (by omega)
            have e2 : s.data.toList[2 * (k / 2) + 1]'(by omega) = s.data.toList[k]'hltL := getElem_congr_idx (by omega)
            rw [e1, e2, HC.out] at h
            unfold Hid
            rw [show (k + 1) / 2 = k / 2 + 1 by omega, h, List.map_append, List.map_singleton, ← HZ2.out, nib_bv z (digV c) hz0 hz16 hd0 hd16]
          clear hz HZ hneg
          go_wp2_with (at_builtin; refine wpList_append_new rfl _ _ 45 rfl w.heap.size (.int .u8 0) 1 1 Tryz.underlying45 info_u8 rfl (by decide) _ (k / 2) _ rfl hown 1 rfl rfl (by simp [Value.oneCell']) (by omega) (by omega) hsz ?_; intro v1 w2 hown1 hb1 _)
          go_roundw
          case rel =>
            refine ⟨k + 1, z, hlt, rfl, rfl, HD', ?_, ?_, hbel.trans hb1⟩
            · exact fun h => absurd h (by omega)
            · rw [hHS.out, show (k + 1) / 2 = k / 2 + 1 by omega]
              exact hown1
          case measure => simp [intOf]; omega
    · obtain rfl : k = s.size := by omega
      have hl : s.data.toList.length = s.size := rfl
      have hp := parse_all (l := s.data.toList) (fun i hi => HD.out i hi (by omega))
      rw [hl] at hp
      by_cases hpar : s.size % 2 = 1
      · rw [if_pos hpar] at hp
        have HP := Lib.hid hp
        have hm : ((s.size : Int).tmod 2 != 0) = true := by rw [Int.tmod_eq_emod_of_nonneg (by omega), bne_iff_ne]; omega
        clear hp hl
        go_wp2_with fail
        go_returns
        unfold parseE
        rw [HP.out]
        exact ⟨⟨⟨#[]⟩, rfl, Lib.hid rfl⟩, hbel⟩
      · rw [if_neg hpar] at hp
        have HP := Lib.hid hp
        have hm : ((s.size : Int).tmod 2 != 0) = false := by rw [Int.tmod_eq_emod_of_nonneg (by omega), bne_eq_false_iff_eq]; omega
        rw [show 2 * (s.size / 2) = s.size by omega, show s.data.toList.take s.size = s.data.toList from List.take_of_length_le (Nat.le_refl _)] at hown
        obtain ⟨t, hconv, hS⟩ := string_row _ 45 9 Tryz.underlying45 Tryz.underlying5 Tryz.underlying9 hown
        clear hp hl
        go_wp2_with fail
        go_returns
        unfold parseE
        rw [HP.out]
        exact ⟨⟨t, rfl, Lib.hid hS.out⟩, hbel⟩
end Go.Proofs.YtknonabeagbjeaaGreatDoor
