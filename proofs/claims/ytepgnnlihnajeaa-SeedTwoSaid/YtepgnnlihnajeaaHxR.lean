/- Layer 2, the document's answer: digits, texts, their reading; walked. -/
import Derived.Test.YtepgnnlihnajeaaHxB
import Derived.Test.YtepgnnlihnajeaaHxL
import Derived.Deep.DrawnRows
namespace Go.Proofs.Ytepgnnlihnajeaa
open Go.RowKit
attribute [local go_sem ↓] Go.wp_at_zero Go.wp_at_succ

theorem ref_Digit (c : UInt8) (w : World) :
    Calls Try.prog 26 #[.int .u8 c.toNat] w fun e w' => e = .returned (.int .i64 (digV c)) ∧ w = w' := by
  have hc8 := c.toNat_lt
  have hcase : (48 ≤ c.toNat ∧ c.toNat ≤ 57) ∨ (97 ≤ c.toNat ∧ c.toNat ≤ 102) ∨ (65 ≤ c.toNat ∧ c.toNat ≤ 70) ∨ c.toNat < 48 ∨ (57 < c.toNat ∧ c.toNat < 65) ∨ (70 < c.toNat ∧ c.toNat < 97) ∨ 102 < c.toNat := by omega
  rcases hcase with ⟨ha, hb⟩ | ⟨ha, hb⟩ | ⟨ha, hb⟩ | ha | ⟨ha, hb⟩ | ⟨ha, hb⟩ | ha
  all_goals
    go_enter Try.func26, Try.ntmps26
    go_wp2_with fail
    go_returns
    refine ⟨ret_int ?_, rfl⟩
    unfold digV
    repeat' split
    all_goals omega

theorem ref_sign (n : Nat) (hn : n < 16) (w : World) :
    Calls Try.prog 24 #[.int .i64 (n : Int)] w fun e w' => e = .returned (.int .u8 (smallN n : Nat)) ∧ w = w' := by
  by_cases h : n < 10
  all_goals
    go_enter Try.func24, Try.ntmps24
    go_wp2_with fail
    go_returns
    refine ⟨ret_int ?_, rfl⟩
    unfold smallN
    split <;> omega

set_option maxHeartbeats 2000000 in
theorem ref_hexText (s : ByteArray) (w : World) (hs : s.size ≤ 1000000000000) :
    Calls Try.prog 15 #[.string s] w fun e w' => (∃ t, e = .returned (.string t) ∧ Hid (t.data.toList = hexT s.data.toList)) ∧ Below w.heap.size w w' := by
  go_enter Try.func15, Try.ntmps15
  go_wp2_with fail
  go_loopw [3, 4] (fun v i wr => ∃ k : Nat, k ≤ s.size ∧ i = .int .i64 k ∧ wr.ownsRow w.heap.size 5 1 v (2 * k) ((hexT (s.data.toList.take k)).map bv) ∧ Below w.heap.size w wr) (fun _ i _ => s.size - (intOf i).toNat)
  case atStart => exact ⟨0, Nat.zero_le _, rfl, ⟨rfl, .inl ⟨rfl, rfl⟩⟩, Below.refl _ _⟩
  case round =>
    obtain ⟨k, hk, rfl, hown, hbel⟩ := hrel
    by_cases hlt : k < s.size
    · have HS := Lib.hid (hexT_snoc s.data.toList k hlt)
      obtain ⟨x, hx⟩ : ∃ x, s[k] = x := ⟨_, rfl⟩
      have hltI : (k : Int) < s.size := by omega
      have hk0 : (0 : Int) ≤ k := by omega
      have hsz := hbel.size
      have hx8 := x.toNat_lt
      have K1 : Hid (∀ W : World, Calls Try.prog 24 #[.int .i64 ((x.toNat : Int) / 16)] W fun e w' => e = .returned (.int .u8 (smallN (x.toNat / 16) : Nat)) ∧ W = w') := fun W => ref_sign (x.toNat / 16) (by omega) W
      have K2 : Hid (∀ W : World, Calls Try.prog 24 #[.int .i64 ((x.toNat : Int) % 16)] W fun e w' => e = .returned (.int .u8 (smallN (x.toNat % 16) : Nat)) ∧ W = w') := fun W => ref_sign (x.toNat % 16) (by omega) W
      have q0 : IntKind.i64.wrap (x.toNat : Int) = (x.toNat : Int) := IntWalk.i64_in _ (by omega)
      have q1 : (x.toNat : Int).tdiv 16 = (x.toNat : Int) / 16 := Int.tdiv_eq_ediv_of_nonneg (by omega)
      have q2 : (x.toNat : Int).tmod 16 = (x.toNat : Int) % 16 := Int.tmod_eq_emod_of_nonneg (by omega)
      have q3 : IntKind.i64.wrap ((x.toNat : Int) / 16) = (x.toNat : Int) / 16 := IntWalk.i64_in _ (by omega)
      have q4 : IntKind.i64.wrap ((x.toNat : Int) % 16) = (x.toNat : Int) % 16 := IntWalk.i64_in _ (by omega)
      have e1 : s.data.toList[k] = x := hx
      rw [e1] at HS
      clear e1
      have hownD : wr.drew.ownsRow w.heap.size 5 1 u3 (2 * k) ((hexT (s.data.toList.take k)).map bv) := hown
      go_wp2_with fail
      go_region_law ((first
        | (refine step_call rfl 24 #[.int .i64 ((x.toNat : Int) / 16)] _ (by as_aux_lemma => kernel_rfl) (K1.out _) ?_; rintro e w6 ⟨rfl, rfl⟩; refine ⟨_, rfl, ?_⟩)
        | (refine step_call rfl 24 #[.int .i64 ((x.toNat : Int) % 16)] _ (by as_aux_lemma => kernel_rfl) (K2.out _) ?_; rintro e w6 ⟨rfl, rfl⟩; refine ⟨_, rfl, ?_⟩)
        | (refine step_append_new rfl rfl _ _ 46 rfl w.heap.size (.int .u8 0) 1 1 Try.underlying46 info_u8 rfl (by decide) _ (2 * k) _ rfl hownD 2 rfl rfl (by simp [Value.oneCell']) (by omega) (by omega) (by exact hsz) (by decide) ?_; intro g1 c1 w3 hown1 hb1 hk1)))
      all_goals
        go_wp2_with fail
        go_roundw
        case rel =>
          refine ⟨k + 1, hlt, rfl, ?_, (hbel.drew).trans hb1⟩
          rw [HS.out, List.map_append, hex2]
          exact hown1
        case measure => simp [intOf]; omega
    · obtain rfl : k = s.size := by omega
      obtain ⟨t, hconv, hS⟩ := string_row _ 46 9 Try.underlying46 Try.underlying5 Try.underlying9 hown
      rw [show s.data.toList.take s.size = s.data.toList from List.take_of_length_le (Nat.le_refl _)] at hS
      go_wp2_with fail
      go_returns
      exact ⟨⟨t, rfl, hS⟩, hbel⟩
end Go.Proofs.Ytepgnnlihnajeaa
