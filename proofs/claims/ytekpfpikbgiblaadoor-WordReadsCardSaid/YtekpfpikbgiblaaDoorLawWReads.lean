/- The law WordReads, walked. -/
import Derived.Test.YtekpfpikbgiblaaDoorWrR
import Derived.Test.YtekpfpikbgiblaaDoorAlive
namespace Go.Proofs.YtekpfpikbgiblaaDoor
open Go.RowKit

theorem wr_tail {a w w' : World} (h : Below a.heap.size a w) (hb : Below w.heap.size w w') : Below a.heap.size a w' := h.trans (hb.mono h.size)
set_option maxHeartbeats 2000000 in
theorem wreads_walk (s : ByteArray) (n : UInt32) (w : World) (hp : Pow10 w) :
    Calls Tryd.prog 5 #[.string s, .int .u32 n.toNat] w fun e w' => e = .returned (.bool true) ∧ Below w.heap.size w w' := by
  have KA := Lib.hid (alive_any w)
  by_cases hs : (200 : Int) < s.size
  · clear hp
    go_enter Tryd.func5, Tryd.ntmps5
    go_wp2_with fail
    refine KA.out.mono ?_
    rintro e w1 ⟨rfl, b1⟩
    go_wp2_with fail
    go_returns
    exact ⟨rfl, b1⟩
  · have hn := n.toNat_lt
    obtain ⟨T, hT⟩ : ∃ T : ByteArray, (⟨(Lib.decDigits n.toNat).toArray⟩ : ByteArray) = T := ⟨_, rfl⟩
    have hTl : T.data.toList = Lib.decDigits n.toNat := by rw [← hT]
    have hTs : T.size ≤ 200 := by
      have h := dec_length32 n.toNat (by omega)
      rw [← hTl] at h
      have e : T.data.toList.length = T.size := rfl
      omega
    have k1 := fun W => word_Parse s W (by omega)
    have k2 := fun W => refW_Parse s W (by omega)
    have k3 := fun W h => word_Text n W h
    have k4 := fun W => word_Parse T W hTs
    have k5 := fun W => ref01_Text n.toNat (by omega) W
    rw [hT] at k3 k5
    rw [hTl, parse_dec] at k4
    obtain ⟨p1, hp1⟩ : ∃ p, (parseW s.data.toList).1 = p := ⟨_, rfl⟩
    obtain ⟨p2, hp2⟩ : ∃ p, (parseW s.data.toList).2 = p := ⟨_, rfl⟩
    have hback : p2 = 0 → (⟨(Lib.decDigits p1.toNat).toArray⟩ : ByteArray) = s := by
      intro h
      apply ba_inj
      rw [← hp1]
      exact parse_back s.data.toList (by rw [hp2, h])
    have k6 := fun W h => word_Text p1 W h
    rw [hp1, hp2] at k1 k2
    have K1 := Lib.hid k1
    have K2 := Lib.hid k2
    have K3 := Lib.hid k3
    have K4 := Lib.hid k4
    have K5 := Lib.hid k5
    have HP := Lib.hid hp
    clear k1 k2 k3 k4 k5 hT hTl hTs hp1 hp hn
    by_cases h2 : p2 = 0
    · rw [hback h2] at k6
      have K6 := Lib.hid k6
      subst h2
      clear k6 hback
      go_enter Tryd.func5, Tryd.ntmps5
      go_wp2_with fail
      refine KA.out.mono ?_
      rintro e w1 ⟨rfl, b1⟩
      go_wp2_with fail
      refine (K1.out _).mono ?_
      rintro e w2 ⟨rfl, rfl⟩
      go_wp2_with fail
      refine (K2.out _).mono ?_
      rintro e w2 ⟨rfl, rfl⟩
      go_wp2_with fail
      refine (K3.out _ (HP.out.below b1)).mono ?_
      rintro e w3 ⟨rfl, hb3⟩
      have b3 := wr_tail b1 hb3
      clear b1 hb3
      go_wp2_with fail
      refine (K4.out _).mono ?_
      rintro e w4 ⟨rfl, rfl⟩
      go_wp2_with fail
      refine (K5.out _).mono ?_
      rintro e w5 ⟨rfl, hb5⟩
      have b5 := wr_tail b3 hb5
      clear b3 hb5
      go_wp2_with fail
      refine (K6.out _ (HP.out.below b5)).mono ?_
      rintro e w6 ⟨rfl, hb6⟩
      have b6 := wr_tail b5 hb6
      go_wp2_with fail
      go_returns
      exact ⟨rfl, b6⟩
    · have hq : (p2 == 0) = false := by rw [beq_eq_false_iff_ne]; exact h2
      clear k6 hback
      go_enter Tryd.func5, Tryd.ntmps5
      go_wp2_with fail
      refine KA.out.mono ?_
      rintro e w1 ⟨rfl, b1⟩
      go_wp2_with fail
      refine (K1.out _).mono ?_
      rintro e w2 ⟨rfl, rfl⟩
      go_wp2_with fail
      refine (K2.out _).mono ?_
      rintro e w2 ⟨rfl, rfl⟩
      go_wp2_with fail
      refine (K3.out _ (HP.out.below b1)).mono ?_
      rintro e w3 ⟨rfl, hb3⟩
      have b3 := wr_tail b1 hb3
      clear b1 hb3
      go_wp2_with fail
      refine (K4.out _).mono ?_
      rintro e w4 ⟨rfl, rfl⟩
      go_wp2_with fail
      refine (K5.out _).mono ?_
      rintro e w5 ⟨rfl, hb5⟩
      have b5 := wr_tail b3 hb5
      clear b3 hb5
      go_wp2_with fail
      go_returns
      exact ⟨rfl, b5⟩
end Go.Proofs.YtekpfpikbgiblaaDoor
