/- ImagePuts: the law's own text, walked. -/
import Derived.Test.YtphejmeihojabaaImgA
import Derived.Test.YtphejmeihojabaaImgL
namespace Go.Proofs.Ytphejmeihojabaa
open Go.RowKit

theorem empty_read : readI ([] : List UInt8) = none := rfl

theorem puts_walk (xs : List UInt32) (A : Option Addr) (c : Nat) (d : Int) (w : World) (hx : Sl w w.heap.size A xs.length (xs.map wv)) :
    Calls Try.prog 3 #[.agg #[.slice A xs.length c, .int .i64 d]] w fun e w' => e = .returned (.bool true) ∧ Below w.heap.size w w' := by
  by_cases hbig : 2000 < xs.length
  · go_enter Try.func3, Try.ntmps3
    go_wp2_with fail
    refine (img_awake _).mono ?_
    rintro e w1 ⟨rfl, hb1⟩
    have I1 := (Im1.new w (.slice A xs.length c) d).below hb1
    obtain ⟨a0, a1, _⟩ := I1.all
    clear hb1
    go_wp2_with fail
    go_returns
    exact ⟨rfl, I1.bel⟩
  · have h2 : xs.length ≤ 2000 := by omega
    clear hbig
    by_cases hr : rightB xs.length d = true
    · have HG := Lib.hid hr
      have hd0 : 0 ≤ d := (of_decide_eq_true hr).2.1
      clear hr
      go_enter Try.func3, Try.ntmps3
      go_wp2_with fail
      refine (img_awake _).mono ?_
      rintro e w1 ⟨rfl, hb1⟩
      have I1 := (Im1.new w (.slice A xs.length c) d).below hb1
      obtain ⟨a0, a1, _⟩ := I1.all
      clear hb1
      go_wp2_with fail
      refine (image_Put A xs c d _ ((hx.below I1.bel).more I1.bel.size) HG.out).mono ?_
      rintro e w2 ⟨⟨s, rfl, hs⟩, hb2⟩
      have I2 := I1.below hb2
      clear I1 a0 a1 hb2
      obtain ⟨a0, a1, _⟩ := I2.all
      go_wp2_with fail
      refine (ref_Put A xs c d _ ((hx.below I2.bel).more I2.bel.size) HG.out).mono ?_
      rintro e w3 ⟨⟨t, rfl, ht⟩, hb3⟩
      have I3 := I2.below hb3
      clear I2 a0 a1 hb3
      obtain ⟨a0, a1, _⟩ := I3.all
      obtain rfl : t = s := ba_inj (by rw [ht.out, hs.out])
      clear ht
      have HR : Hid (readI t.data.toList = some (xs, d.toNat)) := by unfold Hid; rw [hs.out]; exact put_read HG.out
      go_wp2_with fail
      refine (image_Read_ok t xs d.toNat _ HR.out).mono ?_
      rintro e w4 ⟨⟨v4, rfl, hown4⟩, hb4⟩
      obtain ⟨A4, c4, rfl, _, _, hS4⟩ := Sl.of_own hown4
      rw [show ((d.toNat : Nat) : Int) = d by omega]
      have I4 := I3.below hb4
      clear I3 a0 a1 hb4 hown4
      obtain ⟨a0, a1, _⟩ := I4.all
      have l4 := I4.a.lt
      go_wp2_with fail
      have hal := (Below.refl w4.heap.size w4).alloc (Nat.le_refl _) (.cells #[.slice A4 xs.length c4, .int .i64 d] 24)
      refine (refI_Same xs xs A4 A c4 c d d _ ((hS4.below hal).more hal.size) ((hx.below (I4.alloc _).bel).more (I4.alloc _).bel.size) (by omega)).mono ?_
      rintro e w5 ⟨rfl, hb5⟩
      have I5 := I4.below (below_new hb5)
      clear I4 a0 a1 hb5 l4 hal
      have hsame : sameB xs xs d d = true := decide_eq_true ⟨rfl, rfl⟩
      go_wp2_with fail
      go_returns
      exact ⟨rfl, I5.bel⟩
    · have hr' : rightB xs.length d = false := by simpa using hr
      have HG := Lib.hid hr'
      clear hr hr'
      go_enter Try.func3, Try.ntmps3
      go_wp2_with fail
      refine (img_awake _).mono ?_
      rintro e w1 ⟨rfl, hb1⟩
      have I1 := (Im1.new w (.slice A xs.length c) d).below hb1
      obtain ⟨a0, a1, _⟩ := I1.all
      clear hb1
      go_wp2_with fail
      refine (image_Put_bad A xs.length c d _ HG.out).mono ?_
      rintro e w2 ⟨rfl, hb2⟩
      have I2 := I1.below hb2
      clear I1 a0 a1 hb2
      obtain ⟨a0, a1, _⟩ := I2.all
      go_wp2_with fail
      refine (ref_Put_bad A xs.length c d _ HG.out).mono ?_
      rintro e w3 ⟨rfl, hb3⟩
      have I3 := I2.below hb3
      clear I2 a0 a1 hb3
      obtain ⟨a0, a1, _⟩ := I3.all
      go_wp2_with fail
      refine (image_Read_bad _ _ (by decide) rfl).mono ?_
      rintro e w4 ⟨rfl, hb4⟩
      have I4 := I3.below hb4
      clear I3 a0 a1 hb4
      go_wp2_with fail
      go_returns
      exact ⟨rfl, (I4.alloc _).bel⟩
end Go.Proofs.Ytphejmeihojabaa
