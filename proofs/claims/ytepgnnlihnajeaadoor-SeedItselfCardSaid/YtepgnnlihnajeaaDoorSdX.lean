/- Layer 50: the laws' fixed fact; SeedLoads, SeedSmall; walked. -/
import Derived.Test.YtepgnnlihnajeaaDoorSdW
namespace Go.Proofs.YtepgnnlihnajeaaDoor
open Go.RowKit

theorem awake_any (w : World) : Calls Tryd.prog 4 #[] w fun e w' => e = .returned (.bool true) ∧ Below w.heap.size w w' := by
  have K0 := Lib.hid seed_Image
  go_enter Tryd.func4, Tryd.ntmps4
  go_wp2_with fail
  refine (K0.out _).mono ?_
  rintro e w1 ⟨⟨s, rfl, hs⟩, hb1⟩
  have hz := seed_size hs.out
  have hd : (s.size : Int) ≤ 160 := by omega
  clear hz
  go_wp2_with fail
  refine (K0.out _).mono ?_
  rintro e w2 ⟨⟨s2, rfl, hs2⟩, hb2⟩
  go_wp2_with fail
  refine (ref_Loads s2 _ _ hs2.out (by decide)).mono ?_
  rintro e w3 ⟨rfl, hb3⟩
  go_wp2_with fail
  go_returns
  exact ⟨rfl, (hb1.trans (hb2.mono hb1.size)).trans (hb3.mono (Nat.le_trans hb1.size hb2.size))⟩

end Go.Proofs.YtepgnnlihnajeaaDoor
