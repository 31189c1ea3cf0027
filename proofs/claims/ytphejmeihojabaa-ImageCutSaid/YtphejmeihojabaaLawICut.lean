/- ImageCut: the law's own text, walked. -/
import Derived.Test.YtphejmeihojabaaImgA
import Derived.Test.YtphejmeihojabaaImgM
namespace Go.Proofs.Ytphejmeihojabaa
open Go.RowKit

set_option maxHeartbeats 1000000 in
theorem cut_walk (xs : List UInt32) (A : Option Addr) (c : Nat) (d : Int) (at_ : Int) (more : ByteArray) (w : World) (hx : Sl w w.heap.size A xs.length (xs.map wv)) (hmore : more.size ≤ maxLen) :
    Calls Try.prog 5 #[.agg #[.slice A xs.length c, .int .i64 d], .int .i64 at_, .string more] w fun e w' => e = .returned (.bool true) ∧ Below w.heap.size w w' := by
  unfold maxLen at hmore
  by_cases hbig : 2000 < xs.length
  · go_enter Try.func5, Try.ntmps5
    go_wp2_with fail
    refine (img_awake _).mono ?_
    rintro e w1 ⟨rfl, hb1⟩
    have I1 := (Im1.new w (.slice A xs.length c) d).below hb1
    obtain ⟨a0, a1, _⟩ := I1.all
    clear hb1
    go_wp2_with fail
    go_returns
    exact ⟨rfl, I1.bel⟩
  · have h2 : xs.length ≤ 2000 := by omega
    clear hbig
    go_enter Try.func5, Try.ntmps5
    go_wp2_with fail
    refine (img_awake _).mono ?_
    rintro e w1 ⟨rfl, hb1⟩
    have I1 := (Im1.new w (.slice A xs.length c) d).below hb1
    obtain ⟨a0, a1, _⟩ := I1.all
    clear hb1
    go_wp2_with fail
    refine (ref_Right A xs.length c d _).mono ?_
    rintro e w2 ⟨rfl, hb2⟩
    have I2 := I1.below hb2
    clear I1 a0 a1 hb2
    obtain ⟨a0, a1, _⟩ := I2.all
    cases hr1 : rightB xs.length d with
    | false =>
      go_wp2_with fail
      go_returns
      exact ⟨rfl, I2.bel⟩
    | true =>
      have HR := Lib.hid hr1
      clear hr1
      by_cases hm : 100 < more.size
      · go_wp2_with fail
        go_returns
        exact ⟨rfl, I2.bel⟩
      · have hm2 : more.size ≤ 100 := by omega
        clear hm hmore
        go_wp2_with fail
        refine (image_Put A xs c d _ ((hx.below I2.bel).more I2.bel.size) HR.out).mono ?_
        rintro e w3 ⟨⟨s, rfl, hs⟩, hb3⟩
        have I3 := I2.below hb3
        clear I2 a0 a1 hb3
        obtain ⟨a0, a1, _⟩ := I3.all
        have hsz : s.size = 12 + 4 * xs.length := by have h := congrArg List.length hs.out; rwa [put_length] at h
        have hszL := Lib.hid hsz
        have hcat : ¬ 9223372036854775807 < s.size + more.size := by omega
        have hs8 : s.size ≤ 8012 := by omega
        clear hsz
        by_cases hme : more.size = 0
        · obtain rfl : more = ByteArray.empty := by
            refine ba_inj ?_
            exact List.eq_nil_of_length_eq_zero hme
          have HRD : Hid (readI s.data.toList = some (xs, d.toNat)) := by unfold Hid; rw [hs.out]; exact put_read HR.out
          go_wp2_with fail
          refine (image_Read_ok s xs d.toNat _ HRD.out).mono ?_
          rintro e w4 ⟨⟨v4, rfl, hown4⟩, hb4⟩
          obtain ⟨A4, c4, rfl, _, _, _⟩ := Sl.of_own hown4
          rw [show ((d.toNat : Nat) : Int) = d by have := (of_decide_eq_true HR.out).2.1; omega]
          have I4 := I3.below hb4
          clear I3 a0 a1 hb4 hown4
          obtain ⟨a0, a1, _⟩ := I4.all
          by_cases hneg : at_ < 0
          · go_wp2_with fail
            go_returns
            exact ⟨rfl, (I4.alloc _).bel⟩
          · have hnn : 0 ≤ at_ := by omega
            obtain ⟨k, rfl⟩ := Int.eq_ofNat_of_zero_le hnn
            clear hneg hnn
            by_cases hge : s.size ≤ k
            · have hgeI : (s.size : Int) ≤ k := by omega
              go_wp2_with fail
              go_returns
              exact ⟨rfl, (I4.alloc _).bel⟩
            · have hgeI : ¬ (s.size : Int) ≤ k := by omega
              have hltI : (k : Int) < s.size := by omega
              have hleI : (k : Int) ≤ s.size := by omega
              have hcutH : Hid (readI (s.extract 0 k).data.toList = none) := by
                unfold Hid
                rw [Lib.extract_data, hs.out]
                have := hszL.out
                exact put_cut HR.out k (by omega)
              have hcs : (s.extract 0 k).size ≤ 1000000000000 := by rw [ByteArray.size_extract]; omega
              have HCS := Lib.hid hcs
              clear hcs
              go_wp2_with fail
              refine (image_Read_bad _ _ HCS.out hcutH.out).mono ?_
              rintro e w5 ⟨rfl, hb5⟩
              have I5 := I4.below (below_new hb5)
              go_wp2_with fail
              go_returns
              exact ⟨rfl, (I5.alloc _).bel⟩
        · have HRD : Hid (readI (s ++ more).data.toList = none) := by
            unfold Hid
            rw [ba_append, hs.out]
            exact put_more HR.out _ (by show 0 < more.size; omega)
          have hcs2 : (s ++ more).size ≤ 1000000000000 := by rw [ByteArray.size_append]; omega
          have HCS2 := Lib.hid hcs2
          clear hcs2
          have hmeq : more.toList.isEmpty = false := by
            rw [Lib.toList_data]
            cases h : more.data.toList with
            | nil => exact absurd (congrArg List.length h) hme
            | cons _ _ => rfl
          go_wp2_with fail
          refine (image_Read_bad _ _ HCS2.out HRD.out).mono ?_
          rintro e w4 ⟨rfl, hb4⟩
          have I4 := I3.below hb4
          clear I3 a0 a1 hb4
          obtain ⟨a0, a1, _⟩ := I4.all
          by_cases hneg : at_ < 0
          · go_wp2_with fail
            go_returns
            exact ⟨rfl, (I4.alloc _).bel⟩
          · have hnn : 0 ≤ at_ := by omega
            obtain ⟨k, rfl⟩ := Int.eq_ofNat_of_zero_le hnn
            clear hneg hnn
            by_cases hge : s.size ≤ k
            · have hgeI : (s.size : Int) ≤ k := by omega
              go_wp2_with fail
              go_returns
              exact ⟨rfl, (I4.alloc _).bel⟩
            · have hgeI : ¬ (s.size : Int) ≤ k := by omega
              have hltI : (k : Int) < s.size := by omega
              have hleI : (k : Int) ≤ s.size := by omega
              have hcutH : Hid (readI (s.extract 0 k).data.toList = none) := by
                unfold Hid
                rw [Lib.extract_data, hs.out]
                have := hszL.out
                exact put_cut HR.out k (by omega)
              have hcs : (s.extract 0 k).size ≤ 1000000000000 := by rw [ByteArray.size_extract]; omega
              have HCS := Lib.hid hcs
              clear hcs
              go_wp2_with fail
              refine (image_Read_bad _ _ HCS.out hcutH.out).mono ?_
              rintro e w5 ⟨rfl, hb5⟩
              have I5 := I4.below (below_new hb5)
              go_wp2_with fail
              go_returns
              exact ⟨rfl, (I5.alloc _).bel⟩
end Go.Proofs.Ytphejmeihojabaa
