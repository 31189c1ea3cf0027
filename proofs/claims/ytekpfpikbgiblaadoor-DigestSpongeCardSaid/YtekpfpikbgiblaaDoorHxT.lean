/- Layer 2: the laid table of digits; what a digit is worth, walked. -/
import Derived.Test.YtekpfpikbgiblaaDoorHx
import Derived.Test.YtekpfpikbgiblaaDoorInfo
namespace Go.Proofs.YtekpfpikbgiblaaDoor
open Go.RowKit

/-- The table of the small digits, as it was laid. -/
def Small (w : World) : Prop := 1 < w.heap.size ∧ ∀ i, i < 16 → w.cell? ⟨1, i, none⟩ = some (.int .u8 (smallN i : Nat))
theorem Small.below {B : Nat} {w w' : World} (h : Small w) (hb : Below B w w') (hB : 1 < B) : Small w' :=
  ⟨by have := hb.size; have := h.1; omega, fun i hi => (hb.cell (p := ⟨1, i, none⟩) hB).trans (h.2 i hi)⟩

set_option maxHeartbeats 1000000 in
theorem hex_value (c : UInt8) (w : World) (hT : Small w) :
    Calls Tryd.prog 36 #[.int .u8 c.toNat] w fun e w' => e = .returned (.int .i64 (digV c)) ∧ w = w' := by
  have hc8 := c.toNat_lt
  have hcase : (65 ≤ c.toNat ∧ c.toNat ≤ 70) ∨ (65 ≤ c.toNat ∧ ¬ c.toNat ≤ 70) ∨ ¬ 65 ≤ c.toNat := by omega
  rcases hcase with ⟨ha, hb⟩ | ⟨ha, hb⟩ | ha
  all_goals
    obtain ⟨L, hL⟩ : ∃ L, lowN c = L := ⟨_, rfl⟩
    have hlow : (lowN c : Int) = L := by rw [hL]
    have HL := Lib.hid hL
    clear hL
    go_enter Tryd.func36, Tryd.ntmps36
    go_wp2_with fail
    first
      | (have hl : (c.toNat : Int) + 32 = (L : Int) := by (rw [← hlow]; unfold lowN; split <;> omega)
         simp only [hl])
      | (have hl : (c.toNat : Int) = (L : Int) := by (rw [← hlow]; unfold lowN; split <;> omega)
         simp only [hl])
    clear hl hlow
    go_loop [12] (fun i => ∃ k : Nat, k ≤ 16 ∧ i = .int .i64 k ∧ ∀ i, i < k → smallN i ≠ L) (fun i => 16 - (intOf i).toNat)
    case atStart => exact ⟨0, by omega, rfl, fun i hi => absurd hi (by omega)⟩
    case round =>
      obtain ⟨k, hk, rfl, hno⟩ := hrel
      have HNO := Lib.hid hno
      clear hno
      by_cases hlt : k < 16
      · have hc := hT.2 k hlt
        have hkI : (k : Int) < 16 := by omega
        have hk0 : (0 : Int) ≤ k := by omega
        by_cases heq : smallN k = L
        · have hb : ((smallN k : Int) == (L : Int)) = true := by rw [heq]; exact beq_self_eq_true _
          have hd : digV c = k := dig_hit c k hlt (by rw [HL.out]; exact heq)
          have HD := Lib.hid hd
          clear hd heq
          go_wp2_with fail
          go_returns
          exact ⟨by rw [HD.out]; rfl, rfl⟩
        · have hb : ((smallN k : Int) == (L : Int)) = false := by rw [beq_eq_false_iff_ne]; omega
          go_wp2_with fail
          go_round
          case rel =>
            refine ⟨k + 1, hlt, rfl, fun i hi => ?_⟩
            by_cases h : i = k
            · subst h; exact heq
            · exact HNO.out i (by omega)
          case measure => simp [intOf]; omega
      · obtain rfl : k = 16 := by omega
        have hd : digV c = -1 := dig_miss c (by rw [HL.out]; exact HNO.out)
        have HD := Lib.hid hd
        clear hd
        go_wp2_with fail
        go_returns
        exact ⟨by rw [HD.out]; rfl, rfl⟩
end Go.Proofs.YtekpfpikbgiblaaDoor
