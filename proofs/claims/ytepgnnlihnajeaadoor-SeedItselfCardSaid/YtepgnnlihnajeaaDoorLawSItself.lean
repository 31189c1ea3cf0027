/- The law SeedItself, walked. -/
import Derived.Test.YtepgnnlihnajeaaDoorSdV
namespace Go.Proofs.YtepgnnlihnajeaaDoor
open Go.RowKit

theorem body_size {t : ByteArray} (h : t.data.toList = bodyL 34) : t.size ≤ 4000 := by
  have e : t.data.toList.length = t.size := rfl
  have k := body_len 34 (by decide)
  rw [← h] at k
  omega
theorem seedItself_walk (w : World) (hT : Small w) :
    Calls Tryd.prog 3 #[] w fun e w' => e = .returned (.bool true) ∧ Below w.heap.size w w' := by
  have KA := Lib.hid awake_any
  have KI := Lib.hid seed_Image
  have KT := Lib.hid seed_Text
  have KL : Hid (∀ (t : ByteArray) (W : World), t.data.toList = bodyL 34 → Calls Tryd.prog 6 #[.string t] W fun e w' => (∃ s, e = .returned (.string s) ∧ Hid (s.data.toList = putI seedW 0)) ∧ Below W.heap.size W w') := by
    intro t W ht
    refine (ref_hexLoad t W (by have := body_size ht; omega)).mono ?_
    rintro e w' ⟨⟨s, rfl, hs⟩, hb⟩
    refine ⟨⟨s, rfl, ?_⟩, hb⟩
    unfold Hid
    rw [hs.out, ht, body_loads]
  go_enter Tryd.func3, Tryd.ntmps3
  go_wp2_with fail
  refine (KA.out _).mono ?_
  rintro e w1 ⟨rfl, b1⟩
  go_wp2_with fail
  refine (KT.out _ (hT.below b1 hT.1)).mono ?_
  rintro e w2 ⟨⟨t2, rfl, ht2⟩, b2⟩
  have hz : (t2.size : Int) ≤ 6000 := by have := body_size ht2.out; omega
  have c2 := b1.trans (b2.mono b1.size)
  go_wp2_with fail
  refine (KT.out _ (hT.below c2 hT.1)).mono ?_
  rintro e w3 ⟨⟨t3, rfl, ht3⟩, b3⟩
  have c3 := c2.trans (b3.mono c2.size)
  go_wp2_with fail
  refine (KL.out t3 _ ht3.out).mono ?_
  rintro e w4 ⟨⟨s4, rfl, hs4⟩, b4⟩
  have c4 := c3.trans (b4.mono c3.size)
  go_wp2_with fail
  refine (KI.out _).mono ?_
  rintro e w5 ⟨⟨s5, rfl, hs5⟩, b5⟩
  have c5 := c4.trans (b5.mono c4.size)
  obtain rfl : s4 = s5 := (ba_eq hs4.out).trans (ba_eq hs5.out).symm
  go_wp2_with fail
  refine (KI.out _).mono ?_
  rintro e w6 ⟨⟨s6, rfl, hs6⟩, b6⟩
  have c6 := c5.trans (b6.mono c5.size)
  go_wp2_with fail
  refine (KT.out _ (hT.below c6 hT.1)).mono ?_
  rintro e w7 ⟨⟨t7, rfl, ht7⟩, b7⟩
  have c7 := c6.trans (b7.mono c6.size)
  go_wp2_with fail
  refine (ref_Loads s6 t7 _ hs6.out (by have := body_size ht7.out; omega)).mono ?_
  rintro e w8 ⟨rfl, b8⟩
  have c8 := c7.trans (b8.mono c7.size)
  go_wp2_with fail
  go_returns
  exact ⟨rfl, c8⟩
end Go.Proofs.YtepgnnlihnajeaaDoor
