/- DigestMixes: the law's own text, walked. -/
import Derived.Test.YtbhibkhmjdleoaaDoorDgW
namespace Go.Proofs.YtbhibkhmjdleoaaDoor
open Go.RowKit

set_option maxHeartbeats 4000000 in
theorem mixes_walk (f : Nat → UInt32) (w : World) (hT : Small w) (hP : Places w) :
    Calls Tryd.prog 3 #[.agg (stv f)] w fun e w' => e = .returned (.bool true) ∧ Below w.heap.size w w' := by
  obtain ⟨M, hM⟩ : ∃ M, mix f = M := ⟨_, rfl⟩
  obtain ⟨U, hU⟩ : ∃ U, unmix f = U := ⟨_, rfl⟩
  have k1 : ∀ W : World, Places W → Calls Tryd.prog 12 #[.agg #[.int .u32 (f 0).toNat, .int .u32 (f 1).toNat, .int .u32 (f 2).toNat, .int .u32 (f 3).toNat, .int .u32 (f 4).toNat, .int .u32 (f 5).toNat, .int .u32 (f 6).toNat, .int .u32 (f 7).toNat]] W fun e W' => e = .returned (.agg (stv M)) ∧ Below W.heap.size W W' := fun W h => by rw [← hM]; exact mixL f W h
  have k2 : ∀ W : World, Places W → Calls Tryd.prog 14 #[.agg #[.int .u32 (f 0).toNat, .int .u32 (f 1).toNat, .int .u32 (f 2).toNat, .int .u32 (f 3).toNat, .int .u32 (f 4).toNat, .int .u32 (f 5).toNat, .int .u32 (f 6).toNat, .int .u32 (f 7).toNat]] W fun e W' => e = .returned (.agg (stv U)) ∧ Below W.heap.size W W' := fun W h => by rw [← hU]; exact unmixL f W h
  have k3 : ∀ W : World, Calls Tryd.prog 13 #[.agg #[.int .u32 (f 0).toNat, .int .u32 (f 1).toNat, .int .u32 (f 2).toNat, .int .u32 (f 3).toNat, .int .u32 (f 4).toNat, .int .u32 (f 5).toNat, .int .u32 (f 6).toNat, .int .u32 (f 7).toNat]] W fun e W' => e = .returned (.agg (stv M)) ∧ Below W.heap.size W W' := fun W => by rw [← hM]; exact refMixL f W
  have k4 : ∀ W : World, Calls Tryd.prog 15 #[.agg #[.int .u32 (f 0).toNat, .int .u32 (f 1).toNat, .int .u32 (f 2).toNat, .int .u32 (f 3).toNat, .int .u32 (f 4).toNat, .int .u32 (f 5).toNat, .int .u32 (f 6).toNat, .int .u32 (f 7).toNat]] W fun e W' => e = .returned (.agg (stv U)) ∧ Below W.heap.size W W' := fun W => by rw [← hU]; exact refUnmixL f W
  clear hM hU
  have e1 : ∀ W : World, (Op.equalIn 10000 23 (.agg (stv M)) (.agg (stv M))).run Tryd.prog W = .ok true W := fun W => (eqS_run _ _ W).trans (by rw [eqS_true.2 (Eq8.refl _)])
  have e2 : ∀ W : World, (Op.equalIn 10000 23 (.agg (stv U)) (.agg (stv U))).run Tryd.prog W = .ok true W := fun W => (eqS_run _ _ W).trans (by rw [eqS_true.2 (Eq8.refl _)])
  have K1 := Lib.hid k1
  have K2 := Lib.hid k2
  have K3 := Lib.hid k3
  have K4 := Lib.hid k4
  clear k1 k2 k3 k4
  go_enter Tryd.func3, Tryd.ntmps3
  go_wp2_with fail
  have hA := Lw.new w f hT hP
  generalize World.alloc _ _ = W0 at hA ⊢
  go_region_held3 (fun W => W.cell? ⟨w.heap.size, 0, none⟩ = some (.int .u32 (f 0).toNat) ∧ W.cell? ⟨w.heap.size, 1, none⟩ = some (.int .u32 (f 1).toNat) ∧ W.cell? ⟨w.heap.size, 2, none⟩ = some (.int .u32 (f 2).toNat) ∧ W.cell? ⟨w.heap.size, 3, none⟩ = some (.int .u32 (f 3).toNat) ∧ W.cell? ⟨w.heap.size, 4, none⟩ = some (.int .u32 (f 4).toNat) ∧ W.cell? ⟨w.heap.size, 5, none⟩ = some (.int .u32 (f 5).toNat) ∧ W.cell? ⟨w.heap.size, 6, none⟩ = some (.int .u32 (f 6).toNat) ∧ W.cell? ⟨w.heap.size, 7, none⟩ = some (.int .u32 (f 7).toNat) ∧ Lw w f W) ((refine Lw.all ?_; repeat (first | assumption | (refine Lw.drew ?_))))
    ((first
      | (go_at_call 11; go_split_ands; (with_reducible refine (dg_awake _ ?_ ?_).mono ?_); (exact Lw.sm (w := w) (f := f) (by assumption)); (exact Lw.pl (w := w) (f := f) (by assumption)); rintro e w6 ⟨rfl, hb6⟩; have I6 := Lw.below (w := w) (by assumption) hb6)
      | (go_at_call 12; go_split_ands; (with_reducible refine (K1.out _ ?_).mono ?_); (exact Lw.pl (w := w) (f := f) (by assumption)); rintro e w6 ⟨rfl, hb6⟩; have I6 := Lw.below (w := w) (by assumption) hb6)
      | (go_at_call 14; go_split_ands; (with_reducible refine (K2.out _ ?_).mono ?_); (exact Lw.pl (w := w) (f := f) (by assumption)); rintro e w6 ⟨rfl, hb6⟩; have I6 := Lw.below (w := w) (by assumption) hb6)
      | (go_at_call 13; go_split_ands; (with_reducible refine (K3.out _ ).mono ?_); rintro e w6 ⟨rfl, hb6⟩; have I6 := Lw.below (w := w) (by assumption) hb6)
      | (go_at_call 15; go_split_ands; (with_reducible refine (K4.out _ ).mono ?_); rintro e w6 ⟨rfl, hb6⟩; have I6 := Lw.below (w := w) (by assumption) hb6)))
  go_split_ands
  go_wp2_with fail
  go_returns
  exact ⟨rfl, Lw.bel (w := w) (f := f) (by assumption)⟩
end Go.Proofs.YtbhibkhmjdleoaaDoor
