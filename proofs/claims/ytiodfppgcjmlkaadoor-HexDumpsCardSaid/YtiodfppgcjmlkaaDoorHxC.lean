/- Layer 2: the lenient reading, walked. -/
import Derived.Test.YtiodfppgcjmlkaaDoorHxB
import Derived.Test.YtiodfppgcjmlkaaDoorHxL
namespace Go.Proofs.YtiodfppgcjmlkaaDoor
open Go.RowKit

set_option maxHeartbeats 2000000 in
theorem hex_Load (s : ByteArray) (w : World) (hs : s.size ≤ 1000000000000) (hT : Small w) :
    Calls Tryd.prog 16 #[.string s] w fun e w' => (∃ t, e = .returned (.string t) ∧ Hid (t.data.toList = loadL s.data.toList)) ∧ Below w.heap.size w w' := by
  go_enter Tryd.func16, Tryd.ntmps16
  go_wp2_with (at_make; refine wpList_make_row _ rfl _ _ 31 rfl w.heap.size 5 (.int .u8 0) 1 1 Tryd.underlying31 info_u8 _ _ _ (s.size / 2) rfl rfl (by omega) (by omega) (by omega) (Nat.le_refl _) ?_; intro v0 w0 hown0 hb0 hg0 hv0)
  go_loopw [3, 4, 5, 6] (fun v hv cv i wr => ∃ (k : Nat) (n : Bool) (h : Int) (o : List UInt8), k ≤ s.size ∧ i = .int .i64 k ∧ hv = .int .i64 h ∧ cv = .bool n ∧ Hid (loadS (s.data.toList.take k) = ⟨n, h, o⟩) ∧
    wr.ownsRow w.heap.size 5 1 v o.length (o.map bv) ∧ Below w.heap.size w wr) (fun _ _ _ i _ => s.size - (intOf i).toNat)
  case atStart => exact ⟨0, false, -1, [], Nat.zero_le _, rfl, rfl, rfl, rfl, by simpa using hown0, hb0⟩
  case round =>
    clear hown0 hb0 hg0 hv0
    obtain ⟨k, n, h, o, hk, rfl, rfl, rfl, HS, hown, hbel⟩ := hrel
    have hinv := loadS_inv (s.data.toList.take k)
    rw [HS.out, List.length_take] at hinv
    obtain ⟨hh1, hh2, hlen⟩ := hinv
    dsimp only at hh1 hh2 hlen
    have hlen2 : 2 * o.length ≤ k := by omega
    clear hlen
    have hsz := hbel.size
    by_cases hlt : k < s.size
    · obtain ⟨x, hx⟩ : ∃ x, s[k] = x := ⟨_, rfl⟩
      have HN : Hid (loadS (s.data.toList.take (k + 1)) = lstep ⟨n, h, o⟩ x) := by
        unfold Hid
        rw [loadS_snoc s.data.toList k hlt, HS.out]
        exact congrArg _ hx
      have hltI : (k : Int) < s.size := by omega
      have hk0 : (0 : Int) ≤ k := by omega
      clear HS
      by_cases h10 : x.toNat = 10
      · rw [lstep_nl h10] at HN
        have q10 : ((x.toNat : Int) == 10) = true := by rw [beq_iff_eq]; omega
        clear h10
        go_wp2_with fail
        go_roundw
        case rel => exact ⟨k + 1, _, _, _, hlt, rfl, rfl, rfl, HN, hown, hbel⟩
        case measure => simp [intOf]; omega
      have q10 : ((x.toNat : Int) == 10) = false := by rw [beq_eq_false_iff_ne]; omega
      cases n with
      | true =>
        rw [lstep_note h10] at HN
        clear h10
        go_wp2_with fail
        go_roundw
        case rel => exact ⟨k + 1, _, _, _, hlt, rfl, rfl, rfl, HN, hown, hbel⟩
        case measure => simp [intOf]; omega
      | false =>
        by_cases h35 : x.toNat = 35
        · rw [lstep_hash h35] at HN
          have q35 : ((x.toNat : Int) == 35) = true := by rw [beq_iff_eq]; omega
          clear h10 h35
          go_wp2_with fail
          go_roundw
          case rel => exact ⟨k + 1, _, _, _, hlt, rfl, rfl, rfl, HN, hown, hbel⟩
          case measure => simp [intOf]; omega
        have q35 : ((x.toNat : Int) == 35) = false := by rw [beq_eq_false_iff_ne]; omega
        by_cases hneg : digV x < 0
        · rw [lstep_other h10 h35 hneg] at HN
          clear h10 h35
          go_wp2_with fail
          refine (hex_value x _ (hT.below hbel hT.1)).mono ?_
          rintro e w1 ⟨rfl, rfl⟩
          go_wp2_with fail
          go_roundw
          case rel => exact ⟨k + 1, _, _, _, hlt, rfl, rfl, rfl, HN, hown, hbel⟩
          case measure => simp [intOf]; omega
        by_cases hh : h < 0
        · rw [lstep_high h10 h35 hneg hh] at HN
          clear h10 h35
          go_wp2_with fail
          refine (hex_value x _ (hT.below hbel hT.1)).mono ?_
          rintro e w1 ⟨rfl, rfl⟩
          go_wp2_with fail
          go_roundw
          case rel => exact ⟨k + 1, _, _, _, hlt, rfl, rfl, rfl, HN, hown, hbel⟩
          case measure => simp [intOf]; omega
        · rw [lstep_low h10 h35 hneg hh] at HN
          have hd0 : 0 ≤ digV x := by omega
          have hd16 := digV_lt x
          have hz0 : 0 ≤ h := by omega
          have hor := or_nib h (digV x) hz0 hh2 hd0 hd16
          have hwz : IntKind.i64.wrap (h * 16) = h * 16 := IntWalk.i64_in _ (by omega)
          have HB := Lib.hid (nib_bv h (digV x) hz0 hh2 hd0 hd16)
          clear h10 h35
          go_wp2_with fail
          refine (hex_value x _ (hT.below hbel hT.1)).mono ?_
          rintro e w1 ⟨rfl, rfl⟩
          go_wp2_with (at_builtin; refine wpList_append_new rfl _ _ 31 rfl w.heap.size (.int .u8 0) 1 1 Tryd.underlying31 info_u8 rfl (by decide) _ o.length _ rfl hown 1 rfl rfl (by simp [Value.oneCell']) (by omega) (by omega) hsz ?_; intro v1 w2 hown1 hb1 _)
          go_roundw
          case rel =>
            refine ⟨k + 1, _, _, _, hlt, rfl, rfl, rfl, HN, ?_, hbel.trans hb1⟩
            rw [List.map_append, List.map_singleton, HB.out, List.length_append]
            exact hown1
          case measure => simp [intOf]; omega
    · obtain rfl : k = s.size := by omega
      rw [show s.data.toList.take s.size = s.data.toList from List.take_of_length_le (Nat.le_refl _)] at HS
      obtain ⟨t, hconv, hS⟩ := string_row _ 31 9 Tryd.underlying31 Tryd.underlying5 Tryd.underlying9 hown
      go_wp2_with fail
      go_returns
      exact ⟨⟨t, rfl, by unfold Hid loadL; rw [HS.out, hS.out]⟩, hbel⟩
end Go.Proofs.YtiodfppgcjmlkaaDoor
