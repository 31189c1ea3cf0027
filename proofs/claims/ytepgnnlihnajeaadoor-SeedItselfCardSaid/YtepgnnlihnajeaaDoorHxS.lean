/- Layer 2, the document's answer: a text is read, leniently and not; walked. -/
import Derived.Test.YtepgnnlihnajeaaDoorHxR
namespace Go.Proofs.YtepgnnlihnajeaaDoor
open Go.RowKit

theorem digV_10 {x : UInt8} (h : x.toNat = 10) : digV x = -1 := by unfold digV; rw [h]; rfl
theorem digV_35 {x : UInt8} (h : x.toNat = 35) : digV x = -1 := by unfold digV; rw [h]; rfl

set_option maxHeartbeats 2000000 in
theorem ref_hexLoad (s : ByteArray) (w : World) (hs : s.size ≤ 1000000000000) :
    Calls Tryd.prog 6 #[.string s] w fun e w' => (∃ t, e = .returned (.string t) ∧ Hid (t.data.toList = loadL s.data.toList)) ∧ Below w.heap.size w w' := by
  go_enter Tryd.func6, Tryd.ntmps6
  go_wp2_with fail
  go_loopw [3, 4, 5, 6] (fun v cv hv i wr => ∃ (k : Nat) (n : Bool) (h : Int) (o : List UInt8), k ≤ s.size ∧ i = .int .i64 k ∧ hv = .int .i64 h ∧ cv = .bool n ∧ Hid (loadS (s.data.toList.take k) = ⟨n, h, o⟩) ∧
    wr.ownsRow w.heap.size 5 1 v o.length (o.map bv) ∧ Below w.heap.size w wr) (fun _ _ _ i _ => s.size - (intOf i).toNat)
  case atStart => exact ⟨0, false, -1, [], Nat.zero_le _, rfl, rfl, rfl, rfl, ⟨rfl, .inl ⟨rfl, rfl⟩⟩, Below.refl _ _⟩
  case round =>
    obtain ⟨k, n, h, o, hk, rfl, rfl, rfl, HS, hown, hbel⟩ := hrel
    have hinv := loadS_inv (s.data.toList.take k)
    rw [HS.out, List.length_take] at hinv
    obtain ⟨hh1, hh2, hlen⟩ := hinv
    dsimp only at hh1 hh2 hlen
    have hlen2 : 2 * o.length ≤ k := by omega
    clear hlen
    have hsz := hbel.size
    by_cases hlt : k < s.size
    · obtain ⟨x, hx⟩ : ∃ x, s[k] = x := ⟨_, rfl⟩
      have HN : Hid (loadS (s.data.toList.take (k + 1)) = lstep ⟨n, h, o⟩ x) := by
        unfold Hid
        rw [loadS_snoc s.data.toList k hlt, HS.out]
        exact congrArg _ hx
      have hltI : (k : Int) < s.size := by omega
      have hk0 : (0 : Int) ≤ k := by omega
      clear HS
      by_cases h10 : x.toNat = 10
      · rw [lstep_nl h10] at HN
        have q10 : ((x.toNat : Int) == 10) = true := by rw [beq_iff_eq]; omega
        have q35 : ((x.toNat : Int) == 35) = false := by rw [beq_eq_false_iff_ne]; omega
        have hneg : digV x < 0 := by rw [digV_10 h10]; decide
        clear h10
        go_wp2_with fail
        refine (ref_Digit x _).mono ?_
        rintro e w1 ⟨rfl, rfl⟩
        go_wp2_with fail
        go_roundw
        case rel => exact ⟨k + 1, _, _, _, hlt, rfl, rfl, rfl, HN, hown, hbel⟩
        case measure => simp [intOf]; omega
      have q10 : ((x.toNat : Int) == 10) = false := by rw [beq_eq_false_iff_ne]; omega
      by_cases h35 : x.toNat = 35
      · have HN2 : Hid (loadS (s.data.toList.take (k + 1)) = ⟨true, h, o⟩) := by
          cases n with
          | true => rw [lstep_note h10] at HN; exact HN
          | false => rw [lstep_hash h35] at HN; exact HN
        have q35 : ((x.toNat : Int) == 35) = true := by rw [beq_iff_eq]; omega
        have hneg : digV x < 0 := by rw [digV_35 h35]; decide
        clear h10 h35 HN
        go_wp2_with fail
        refine (ref_Digit x _).mono ?_
        rintro e w1 ⟨rfl, rfl⟩
        go_wp2_with fail
        go_roundw
        case rel => exact ⟨k + 1, _, _, _, hlt, rfl, rfl, rfl, HN2, hown, hbel⟩
        case measure => simp [intOf]; omega
      have q35 : ((x.toNat : Int) == 35) = false := by rw [beq_eq_false_iff_ne]; omega
      cases n with
      | true =>
        rw [lstep_note h10] at HN
        clear h10 h35
        go_wp2_with fail
        refine (ref_Digit x _).mono ?_
        rintro e w1 ⟨rfl, rfl⟩
        go_wp2_with fail
        go_roundw
        case rel => exact ⟨k + 1, _, _, _, hlt, rfl, rfl, rfl, HN, hown, hbel⟩
        case measure => simp [intOf]; omega
      | false =>
        by_cases hneg : digV x < 0
        · rw [lstep_other h10 h35 hneg] at HN
          clear h10 h35
          go_wp2_with fail
          refine (ref_Digit x _).mono ?_
          rintro e w1 ⟨rfl, rfl⟩
          go_wp2_with fail
          go_roundw
          case rel => exact ⟨k + 1, _, _, _, hlt, rfl, rfl, rfl, HN, hown, hbel⟩
          case measure => simp [intOf]; omega
        by_cases hh : h < 0
        · rw [lstep_high h10 h35 hneg hh] at HN
          clear h10 h35
          go_wp2_with fail
          refine (ref_Digit x _).mono ?_
          rintro e w1 ⟨rfl, rfl⟩
          go_wp2_with fail
          go_roundw
          case rel => exact ⟨k + 1, _, _, _, hlt, rfl, rfl, rfl, HN, hown, hbel⟩
          case measure => simp [intOf]; omega
        · rw [lstep_low h10 h35 hneg hh] at HN
          have hd0 : 0 ≤ digV x := by omega
          have hd16 := digV_lt x
          have hz0 : 0 ≤ h := by omega
          have HB : Hid (bv (UInt8.ofNat (h.toNat * 16 + (digV x).toNat)) = .int .u8 (16 * h + digV x)) := by unfold Hid; rw [nib_bv h (digV x) hz0 hh2 hd0 hd16, Int.mul_comm]
          clear h10 h35
          go_wp2_with fail
          refine (ref_Digit x _).mono ?_
          rintro e w1 ⟨rfl, rfl⟩
          go_wp2_with (at_builtin; refine wpList_append_new rfl _ _ 31 rfl w.heap.size (.int .u8 0) 1 1 Tryd.underlying31 info_u8 rfl (by decide) _ o.length _ rfl hown 1 rfl rfl (by simp [Value.oneCell']) (by omega) (by omega) hsz ?_; intro v1 w2 hown1 hb1 _)
          go_roundw
          case rel =>
            refine ⟨k + 1, _, _, _, hlt, rfl, rfl, rfl, HN, ?_, hbel.trans hb1⟩
            rw [List.map_append, List.map_singleton, HB.out, List.length_append]
            exact hown1
          case measure => simp [intOf]; omega
    · obtain rfl : k = s.size := by omega
      rw [show s.data.toList.take s.size = s.data.toList from List.take_of_length_le (Nat.le_refl _)] at HS
      obtain ⟨t, hconv, hS⟩ := string_row _ 31 9 Tryd.underlying31 Tryd.underlying5 Tryd.underlying9 hown
      go_wp2_with fail
      go_returns
      exact ⟨⟨t, rfl, by unfold Hid loadL; rw [HS.out, hS.out]⟩, hbel⟩

end Go.Proofs.YtepgnnlihnajeaaDoor
