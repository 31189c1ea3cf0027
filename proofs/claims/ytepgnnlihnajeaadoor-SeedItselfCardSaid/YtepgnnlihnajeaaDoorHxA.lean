/- Layer 2: texts of bytes, and their reading, walked. -/
import Derived.Test.YtepgnnlihnajeaaDoorHxT
namespace Go.Proofs.YtepgnnlihnajeaaDoor
open Go.RowKit

theorem and15 (x : UInt8) : bits .and .u8 (x.toNat : Int) 15 = (x.toNat : Int) % 16 := by
  have h := u8_and_nat x.toNat 15 x.toNat_lt (by decide)
  have h2 : x.toNat &&& 15 = x.toNat % 16 := Nat.and_two_pow_sub_one_eq_mod x.toNat 4
  rw [h2] at h
  exact h.trans (by omega)

set_option maxHeartbeats 1000000 in
theorem hex_Text (s : ByteArray) (w : World) (hs : s.size ≤ 1000000000000) (hT : Small w) :
    Calls Tryd.prog 21 #[.string s] w fun e w' => (∃ t, e = .returned (.string t) ∧ Hid (t.data.toList = hexT s.data.toList)) ∧ Below w.heap.size w w' := by
  go_enter Tryd.func21, Tryd.ntmps21
  go_wp2_with (at_make; refine wpList_make_row _ rfl _ _ 31 rfl w.heap.size 5 (.int .u8 0) 1 1 Tryd.underlying31 info_u8 _ _ _ (2 * s.size) rfl rfl (by omega) (by omega) (by omega) (Nat.le_refl _) ?_; intro v0 w0 hown0 hb0 hg0 hv0)
  go_loopw [3, 4] (fun v i wr => ∃ k : Nat, k ≤ s.size ∧ i = .int .i64 k ∧ wr.ownsRow w.heap.size 5 1 v (2 * k) ((hexT (s.data.toList.take k)).map bv) ∧ Below w.heap.size w wr) (fun _ i _ => s.size - (intOf i).toNat)
  case atStart => exact ⟨0, Nat.zero_le _, rfl, by simpa [hexT] using hown0, hb0⟩
  case round =>
    obtain ⟨k, hk, rfl, hown, hbel⟩ := hrel
    by_cases hlt : k < s.size
    · have HS := Lib.hid (hexT_snoc s.data.toList k hlt)
      obtain ⟨x, hx⟩ : ∃ x, s[k] = x := ⟨_, rfl⟩
      have hltI : (k : Int) < s.size := by omega
      have hk0 : (0 : Int) ≤ k := by omega
      have hsz := hbel.size
      have hx8 := x.toNat_lt
      have c1 := (hT.below hbel hT.1).2 (x.toNat / 16) (by omega)
      have c2 := (hT.below hbel hT.1).2 (x.toNat % 16) (by omega)
      have f1 : (0 : Int) ≤ (x.toNat : Int) / 16 := by omega
      have f2 : (x.toNat : Int) / 16 < 16 := by omega
      have f3 : ((x.toNat : Int) / 16).toNat = x.toNat / 16 := by omega
      have h15 := and15 x
      have g1 : (0 : Int) ≤ (x.toNat : Int) % 16 := by omega
      have g2 : (x.toNat : Int) % 16 < 16 := by omega
      have g3 : ((x.toNat : Int) % 16).toNat = x.toNat % 16 := by omega
      have e1 : s.data.toList[k] = x := hx
      rw [e1] at HS
      clear e1
      have hownD : wr.drew.ownsRow w.heap.size 5 1 u3 (2 * k) ((hexT (s.data.toList.take k)).map bv) := hown
      go_wp2_with fail
      go_region_law ((first
        | (refine step_append_new rfl rfl _ _ 31 rfl w.heap.size (.int .u8 0) 1 1 Tryd.underlying31 info_u8 rfl (by decide) _ (2 * k) _ rfl hownD 2 rfl rfl (by simp [Value.oneCell']) (by omega) (by omega) (by exact hsz) (by decide) ?_; intro g1 c1 w3 hown1 hb1 hk1)))
      all_goals
        go_wp2_with fail
        go_roundw
        case rel =>
          refine ⟨k + 1, hlt, rfl, ?_, (hbel.drew).trans hb1⟩
          rw [HS.out, List.map_append, hex2]
          exact hown1
        case measure => simp [intOf]; omega
    · obtain rfl : k = s.size := by omega
      obtain ⟨t, hconv, hS⟩ := string_row _ 31 9 Tryd.underlying31 Tryd.underlying5 Tryd.underlying9 hown
      rw [show s.data.toList.take s.size = s.data.toList from List.take_of_length_le (Nat.le_refl _)] at hS
      go_wp2_with fail
      go_returns
      exact ⟨⟨t, rfl, hS⟩, hbel⟩
end Go.Proofs.YtepgnnlihnajeaaDoor
