/- The law ListingText, walked. -/
import Derived.Test.YtneebohaanjejaaDoorLk
import Derived.Test.YtneebohaanjejaaDoorLz
namespace Go.Proofs.YtneebohaanjejaaDoor
open Go.RowKit

set_option maxHeartbeats 1000000 in
theorem ltext_walk (code : List UInt32) (A : Option Addr) (c : Nat) (d : Int) (w : World) (hA : Sl w w.heap.size A code.length (code.map wv)) (hp : Pow10 w) :
    Calls Tryd.prog 5 #[.agg #[.slice A code.length c, .int .i64 d]] w fun e w' => e = .returned (.bool true) ∧ Below w.heap.size w w' := by
  have KA := Lib.hid ls_awake
  have T0 := Tg.new w A code.length c d
  have hp0 := hp.below T0.bel
  by_cases hbig : 400 < code.length
  · have hI : (400 : Int) < code.length := by omega
    clear hbig
    go_enter Tryd.func5, Tryd.ntmps5
    go_wp2_with fail
    refine (KA.out _ hp0).mono ?_
    rintro e w1 ⟨rfl, b1⟩
    have T1 := T0.below b1
    have t0 := T1.cells.1
    go_wp2_with fail
    go_returns
    exact ⟨rfl, T1.bel⟩
  · have hI : ¬ (400 : Int) < code.length := by omega
    have hR : (∃ (s : ByteArray) (k : Int), Hid (∀ W : World, Below w.heap.size w W → Calls Tryd.prog 22 #[.agg #[.slice A code.length c, .int .i64 d]] W fun e w' => e = .returned (.tuple #[.string s, .int .i64 k]) ∧ Below W.heap.size W w') ∧
        Hid (∀ W : World, Below w.heap.size w W → Calls Tryd.prog 23 #[.agg #[.slice A code.length c, .int .i64 d]] W fun e w' => e = .returned (.tuple #[.string s, .int .i64 k]) ∧ Below W.heap.size W w')) := by
      cases hr : rightB code.length d with
      | false => exact ⟨⟨#[]⟩, 1, Lib.hid fun W h => listing_Text_bad A _ c d W hr, Lib.hid fun W h => ref11_Text_bad A _ c d W hr⟩
      | true =>
        have hr2 := of_decide_eq_true hr
        obtain ⟨dn, rfl⟩ : ∃ dn : Nat, d = (dn : Int) := ⟨d.toNat, by omega⟩
        refine ⟨⟨(textT code dn).toArray⟩, 0, Lib.hid fun W h => ?_, Lib.hid fun W h => ?_⟩
        · refine (listing_Text A code c dn W ((hA.below h).more h.size) hr (hp.below h)).mono ?_
          rintro e w' ⟨⟨s, rfl, hs⟩, hb⟩
          have e2 := ba_eq hs.out
          subst e2
          exact ⟨rfl, hb⟩
        · refine (ref11_Text A code c dn W ((hA.below h).more h.size) hr).mono ?_
          rintro e w' ⟨⟨s, rfl, hs⟩, hb⟩
          have e2 := ba_eq hs.out
          subst e2
          exact ⟨rfl, hb⟩
    obtain ⟨s, k, K1, K2⟩ := hR
    clear hbig
    go_enter Tryd.func5, Tryd.ntmps5
    go_wp2_with fail
    refine (KA.out _ hp0).mono ?_
    rintro e w1 ⟨rfl, b1⟩
    have T1 := T0.below b1
    have t0 := T1.cells.1
    have t1 := T1.cells.2
    go_wp2_with fail
    refine (K1.out _ T1.bel).mono ?_
    rintro e w2 ⟨rfl, b2⟩
    have T2 := T1.below b2
    have u0 := T2.cells.1
    have u1 := T2.cells.2
    clear t0 t1 T0 hp0 b1 b2 T1
    go_wp2_with fail
    refine (K2.out _ T2.bel).mono ?_
    rintro e w3 ⟨rfl, b3⟩
    have hb := (T2.below b3).bel
    clear u0 u1 T2 b3
    go_wp2_with fail
    go_returns
    exact ⟨rfl, hb⟩
end Go.Proofs.YtneebohaanjejaaDoor
