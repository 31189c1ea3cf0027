/- The law InstReads, walked. -/
import Derived.Test.YtgdmiieilggffaaDoorLawINames
import Derived.Test.YtgdmiieilggffaaDoorInQ
namespace Go.Proofs.YtgdmiieilggffaaDoor
open Go.RowKit

theorem eqI_refl (x : UInt32) (w : World) : (Op.equalIn 10000 23 (.agg #[.int .i64 (opD x), .int .i64 (aD x), .int .i64 (bD x), .int .i64 (cD x)]) (.agg #[.int .i64 (opD x), .int .i64 (aD x), .int .i64 (bD x), .int .i64 (cD x)])).run Tryd.prog w = .ok true w := by
  have hx := x.toNat_lt
  have h1 : Is64 (opD x) := by unfold opD Is64; omega
  have h2 : Is64 (aD x) := by unfold aD Is64; omega
  have h3 : Is64 (bD x) := by unfold bD Is64; omega
  have h4 : Is64 (cD x) := by unfold cD Is64; omega
  rw [eqI_run _ _ _ _ _ _ _ _ w h1 h2 h3 h4 h1 h2 h3 h4, decide_eq_true ⟨rfl, rfl, rfl, rfl⟩]
theorem eqI_zero (w : World) : (Op.equalIn 10000 23 (.agg #[.int .i64 0, .int .i64 0, .int .i64 0, .int .i64 0]) (.agg #[.int .i64 0, .int .i64 0, .int .i64 0, .int .i64 0])).run Tryd.prog w = .ok true w := by kernel_rfl

set_option maxHeartbeats 2000000 in
theorem ireads_walk (x : UInt32) (w : World) (hp : Pow10 w) :
    Calls Tryd.prog 4 #[.int .u32 x.toNat] w fun e w' => e = .returned (.bool true) ∧ Below w.heap.size w w' := by
  have KA := Lib.hid (in_alive w hp)
  clear hp
  cases hd : decB x with
  | true =>
    have KD := Lib.hid (fun W => inst_Decode_ok x W hd)
    have KR := Lib.hid (fun W => ref_Decode_ok x W hd)
    have hR : rightI (opD x) (aD x) (bD x) (cD x) = true := hd
    have K1 : ∀ W : World, Calls Tryd.prog 10 #[.agg #[.int .i64 (opD x), .int .i64 (aD x), .int .i64 (bD x), .int .i64 (cD x)]] W fun e w' => e = .returned (.tuple #[.int .u32 x.toNat, .int .i64 0]) ∧ Below W.heap.size W w' := fun W => by
      have h2 := inst_Encode _ _ _ _ W hR
      rw [dec_enc] at h2
      exact h2
    have K2 : ∀ W : World, Calls Tryd.prog 12 #[.agg #[.int .i64 (opD x), .int .i64 (aD x), .int .i64 (bD x), .int .i64 (cD x)]] W fun e w' => e = .returned (.bool true) ∧ Below W.heap.size W w' := fun W => by
      have h2 := inst_Right (opD x) (aD x) (bD x) (cD x) W
      rw [hR] at h2
      exact h2
    have KE := Lib.hid K1
    have KT := Lib.hid K2
    have heq := eqI_refl x
    clear K1 K2 hR hd
    generalize opD x = o at *
    generalize aD x = a at *
    generalize bD x = b at *
    generalize cD x = c at *
    go_enter Tryd.func4, Tryd.ntmps4
    go_wp2_with fail
    refine KA.out.mono ?_
    rintro e w1 ⟨rfl, b1⟩
    go_wp2_with fail
    refine (KD.out _).mono ?_
    rintro e w2 ⟨rfl, hb2⟩
    have b2 := below_tail b1 hb2
    have hA := Blk.new w2 23 #[.int .i64 o, .int .i64 a, .int .i64 b, .int .i64 c]
    clear b1 hb2
    go_wp2_with fail
    refine (KR.out _).mono ?_
    rintro e w3 ⟨rfl, hb3⟩
    have b3 := below_tail (b2.alloc b2.size _) hb3
    have hA3 := (hA.below hb3 hA.lt).alloc (.cells #[.int .i64 o, .int .i64 a, .int .i64 b, .int .i64 c] 23)
    have hB3 := Blk.new w3 23 #[.int .i64 o, .int .i64 a, .int .i64 b, .int .i64 c]
    have c0 := hA3.cell 0
    have c1 := hA3.cell 1
    have c2 := hA3.cell 2
    have c3 := hA3.cell 3
    clear hb3 hA
    go_wp2_with fail
    refine (KE.out _).mono ?_
    rintro e w4 ⟨rfl, hb4⟩
    have hA4 := hA3.below hb4 hA3.lt
    have b4 := below_tail (b3.alloc b3.size _) hb4
    clear c0 c1 c2 c3 hA3 hB3 hb4
    have c0 := hA4.cell 0
    have c1 := hA4.cell 1
    have c2 := hA4.cell 2
    have c3 := hA4.cell 3
    go_wp2_with fail
    refine (KT.out _).mono ?_
    rintro e w5 ⟨rfl, hb5⟩
    have b5 := below_tail b4 hb5
    go_wp2_with fail
    go_returns
    exact ⟨rfl, b5⟩
  | false =>
    have KD := Lib.hid (fun W => inst_Decode_bad x W hd)
    have KR := Lib.hid (fun W => ref_Decode_bad x W hd)
    have KE := Lib.hid (fun W => inst_Encode_bad 0 0 0 0 W (by decide +kernel))
    have heq := eqI_zero
    clear hd
    go_enter Tryd.func4, Tryd.ntmps4
    go_wp2_with fail
    refine KA.out.mono ?_
    rintro e w1 ⟨rfl, b1⟩
    go_wp2_with fail
    refine (KD.out _).mono ?_
    rintro e w2 ⟨rfl, hb2⟩
    have b2 := below_tail b1 hb2
    have hA := Blk.new w2 23 #[.int .i64 0, .int .i64 0, .int .i64 0, .int .i64 0]
    clear b1 hb2
    go_wp2_with fail
    refine (KR.out _).mono ?_
    rintro e w3 ⟨rfl, hb3⟩
    have b3 := below_tail (b2.alloc b2.size _) hb3
    have hA3 := (hA.below hb3 hA.lt).alloc (.cells #[.int .i64 0, .int .i64 0, .int .i64 0, .int .i64 0] 23)
    have c0 := hA3.cell 0
    have c1 := hA3.cell 1
    have c2 := hA3.cell 2
    have c3 := hA3.cell 3
    clear hb3 hA
    go_wp2_with fail
    refine (KE.out _).mono ?_
    rintro e w4 ⟨rfl, hb4⟩
    have b4 := below_tail (b3.alloc b3.size _) hb4
    clear c0 c1 c2 c3 hA3 hb4
    go_wp2_with fail
    go_returns
    exact ⟨rfl, b4⟩
end Go.Proofs.YtgdmiieilggffaaDoor
