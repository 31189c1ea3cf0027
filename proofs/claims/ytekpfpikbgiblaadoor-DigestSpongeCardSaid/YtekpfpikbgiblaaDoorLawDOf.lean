/- The law DigestOf, walked. -/
import Derived.Test.YtekpfpikbgiblaaDoorDgOd
import Derived.Test.YtekpfpikbgiblaaDoorDgZ
import Derived.Test.YtekpfpikbgiblaaDoorDgE
namespace Go.Proofs.YtekpfpikbgiblaaDoor
open Go.RowKit

set_option maxHeartbeats 2000000 in
theorem dof_walk (s : ByteArray) (w : World) (hT : Small w) (hP : Places w) :
    Calls Tryd.prog 3 #[.string s] w fun e w' => e = .returned (.bool true) ∧ Below w.heap.size w w' := by
  have KA := Lib.hid (dg_awake w hT hP)
  by_cases hs : (300 : Int) < s.size
  · clear hT hP
    go_enter Tryd.func3, Tryd.ntmps3
    go_wp2_with fail
    refine KA.out.mono ?_
    rintro e w1 ⟨rfl, hb1⟩
    go_wp2_with fail
    go_returns
    exact ⟨rfl, hb1⟩
  · obtain ⟨D, hD⟩ : ∃ D, ofL s.data.toList = D := ⟨_, rfl⟩
    have k1 := fun (W : World) (h : Places W) => digest_Of s W h (by omega)
    have k2 := fun (W : World) => ref_Of s W (by omega)
    rw [hD] at k1 k2
    have K1 := Lib.hid k1
    have K2 := Lib.hid k2
    have heq := eqD_run D D
    rw [show eqD D D = true from decide_eq_true ⟨rfl, rfl, rfl, rfl⟩] at heq
    have HP := Lib.hid hP
    clear k1 k2 hD hT hP
    go_enter Tryd.func3, Tryd.ntmps3
    go_wp2_with fail
    refine KA.out.mono ?_
    rintro e w1 ⟨rfl, hb1⟩
    go_wp2_with fail
    refine (K1.out _ (HP.out.below hb1 HP.out.1)).mono ?_
    rintro e w2 ⟨rfl, hb2⟩
    have b2 := below_tail' hb1 hb2
    go_wp2_with fail
    refine (K2.out _).mono ?_
    rintro e w3 ⟨rfl, hb3⟩
    have b3 := below_tail' b2 hb3
    go_wp2_with fail
    go_returns
    exact ⟨rfl, b3⟩
end Go.Proofs.YtekpfpikbgiblaaDoor
