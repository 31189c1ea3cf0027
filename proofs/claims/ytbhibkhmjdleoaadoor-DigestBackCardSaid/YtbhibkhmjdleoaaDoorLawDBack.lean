/- DigestBack: the law's own text, walked. -/
import Derived.Test.YtbhibkhmjdleoaaDoorDgW
namespace Go.Proofs.YtbhibkhmjdleoaaDoor
open Go.RowKit

theorem eqS_mix (f g : Nat → UInt32) : eqS (mix f) (mix g) = eqS f g := by
  rw [Bool.eq_iff_iff, eqS_true, eqS_true]
  exact ⟨mix_inj, mix_congr⟩
set_option maxHeartbeats 4000000 in
theorem back_walk (f g : Nat → UInt32) (w : World) (hT : Small w) (hP : Places w) :
    Calls Tryd.prog 4 #[.agg (stv f), .agg (stv g)] w fun e w' => e = .returned (.bool true) ∧ Below w.heap.size w w' := by
  have x1 : eqS (unmix (mix f)) f = true := eqS_true.2 (un_mix f)
  have x2 : eqS (mix (unmix f)) f = true := eqS_true.2 (mix_un f)
  have x3 := eqS_mix f g
  obtain ⟨b, hb⟩ : ∃ b, eqS f g = b := ⟨_, rfl⟩
  rw [hb] at x3
  obtain ⟨UM, hUM⟩ : ∃ M, unmix (mix f) = M := ⟨_, rfl⟩
  obtain ⟨MU, hMU⟩ : ∃ M, mix (unmix f) = M := ⟨_, rfl⟩
  rw [hUM] at x1
  rw [hMU] at x2
  have k3 : ∀ W : World, Places W → Calls Tryd.prog 14 #[.agg (stv (mix f))] W fun e W' => e = .returned (.agg (stv UM)) ∧ Below W.heap.size W W' := fun W h => by rw [← hUM]; exact digest_Unmix _ W h
  have k4 : ∀ W : World, Places W → Calls Tryd.prog 12 #[.agg (stv (unmix f))] W fun e W' => e = .returned (.agg (stv MU)) ∧ Below W.heap.size W W' := fun W h => by rw [← hMU]; exact digest_Mix _ W h
  clear hUM hMU
  obtain ⟨M, hM⟩ : ∃ M, mix f = M := ⟨_, rfl⟩
  obtain ⟨N, hN⟩ : ∃ M, mix g = M := ⟨_, rfl⟩
  obtain ⟨U, hU⟩ : ∃ U, unmix f = U := ⟨_, rfl⟩
  rw [hM] at k3 x3
  rw [hN] at x3
  rw [hU] at k4
  have k1 : ∀ W : World, Places W → Calls Tryd.prog 12 #[.agg #[.int .u32 (f 0).toNat, .int .u32 (f 1).toNat, .int .u32 (f 2).toNat, .int .u32 (f 3).toNat, .int .u32 (f 4).toNat, .int .u32 (f 5).toNat, .int .u32 (f 6).toNat, .int .u32 (f 7).toNat]] W fun e W' => e = .returned (.agg (stv M)) ∧ Below W.heap.size W W' := fun W h => by rw [← hM]; exact mixL f W h
  have k5 : ∀ W : World, Places W → Calls Tryd.prog 12 #[.agg #[.int .u32 (g 0).toNat, .int .u32 (g 1).toNat, .int .u32 (g 2).toNat, .int .u32 (g 3).toNat, .int .u32 (g 4).toNat, .int .u32 (g 5).toNat, .int .u32 (g 6).toNat, .int .u32 (g 7).toNat]] W fun e W' => e = .returned (.agg (stv N)) ∧ Below W.heap.size W W' := fun W h => by rw [← hN]; exact mixL g W h
  have k2 : ∀ W : World, Places W → Calls Tryd.prog 14 #[.agg #[.int .u32 (f 0).toNat, .int .u32 (f 1).toNat, .int .u32 (f 2).toNat, .int .u32 (f 3).toNat, .int .u32 (f 4).toNat, .int .u32 (f 5).toNat, .int .u32 (f 6).toNat, .int .u32 (f 7).toNat]] W fun e W' => e = .returned (.agg (stv U)) ∧ Below W.heap.size W W' := fun W h => by rw [← hU]; exact unmixL f W h
  clear hM hU hN
  have e1 : ∀ W : World, (Op.equalIn 10000 23 (.agg (stv UM)) (.agg #[.int .u32 (f 0).toNat, .int .u32 (f 1).toNat, .int .u32 (f 2).toNat, .int .u32 (f 3).toNat, .int .u32 (f 4).toNat, .int .u32 (f 5).toNat, .int .u32 (f 6).toNat, .int .u32 (f 7).toNat])).run Tryd.prog W = .ok true W := fun W => (eqS_run UM f W).trans (by rw [x1])
  have e2 : ∀ W : World, (Op.equalIn 10000 23 (.agg (stv MU)) (.agg #[.int .u32 (f 0).toNat, .int .u32 (f 1).toNat, .int .u32 (f 2).toNat, .int .u32 (f 3).toNat, .int .u32 (f 4).toNat, .int .u32 (f 5).toNat, .int .u32 (f 6).toNat, .int .u32 (f 7).toNat])).run Tryd.prog W = .ok true W := fun W => (eqS_run MU f W).trans (by rw [x2])
  have e3 : ∀ W : World, (Op.equalIn 10000 23 (.agg (stv M)) (.agg (stv N))).run Tryd.prog W = .ok b W := fun W => (eqS_run M N W).trans (by rw [x3])
  have e4 : ∀ W : World, (Op.equalIn 10000 23 (.agg #[.int .u32 (f 0).toNat, .int .u32 (f 1).toNat, .int .u32 (f 2).toNat, .int .u32 (f 3).toNat, .int .u32 (f 4).toNat, .int .u32 (f 5).toNat, .int .u32 (f 6).toNat, .int .u32 (f 7).toNat]) (.agg #[.int .u32 (g 0).toNat, .int .u32 (g 1).toNat, .int .u32 (g 2).toNat, .int .u32 (g 3).toNat, .int .u32 (g 4).toNat, .int .u32 (g 5).toNat, .int .u32 (g 6).toNat, .int .u32 (g 7).toNat])).run Tryd.prog W = .ok b W := fun W => (eqS_run f g W).trans (by rw [hb])
  have K1 := Lib.hid k1
  have K2 := Lib.hid k2
  have K3 := Lib.hid k3
  have K4 := Lib.hid k4
  have K5 := Lib.hid k5
  clear k1 k2 k3 k4 k5 hb x1 x2 x3
  go_enter Tryd.func4, Tryd.ntmps4
  go_wp2_with fail
  have hA := Lw2.new w f g hT hP
  generalize World.alloc _ _ = W0 at hA ⊢
  go_region_held3 (fun W => W.cell? ⟨w.heap.size, 0, none⟩ = some (.int .u32 (f 0).toNat) ∧ W.cell? ⟨w.heap.size, 1, none⟩ = some (.int .u32 (f 1).toNat) ∧ W.cell? ⟨w.heap.size, 2, none⟩ = some (.int .u32 (f 2).toNat) ∧ W.cell? ⟨w.heap.size, 3, none⟩ = some (.int .u32 (f 3).toNat) ∧ W.cell? ⟨w.heap.size, 4, none⟩ = some (.int .u32 (f 4).toNat) ∧ W.cell? ⟨w.heap.size, 5, none⟩ = some (.int .u32 (f 5).toNat) ∧ W.cell? ⟨w.heap.size, 6, none⟩ = some (.int .u32 (f 6).toNat) ∧ W.cell? ⟨w.heap.size, 7, none⟩ = some (.int .u32 (f 7).toNat) ∧ W.cell? ⟨w.heap.size + 1, 0, none⟩ = some (.int .u32 (g 0).toNat) ∧ W.cell? ⟨w.heap.size + 1, 1, none⟩ = some (.int .u32 (g 1).toNat) ∧ W.cell? ⟨w.heap.size + 1, 2, none⟩ = some (.int .u32 (g 2).toNat) ∧ W.cell? ⟨w.heap.size + 1, 3, none⟩ = some (.int .u32 (g 3).toNat) ∧ W.cell? ⟨w.heap.size + 1, 4, none⟩ = some (.int .u32 (g 4).toNat) ∧ W.cell? ⟨w.heap.size + 1, 5, none⟩ = some (.int .u32 (g 5).toNat) ∧ W.cell? ⟨w.heap.size + 1, 6, none⟩ = some (.int .u32 (g 6).toNat) ∧ W.cell? ⟨w.heap.size + 1, 7, none⟩ = some (.int .u32 (g 7).toNat) ∧ Lw2 w f g W) ((refine Lw2.all ?_; repeat (first | assumption | (refine Lw2.drew ?_))))
    ((first
      | (go_at_call 11; go_split_ands; (with_reducible refine (dg_awake _ ?_ ?_).mono ?_); (exact Lw2.sm (w := w) (f := f) (g := g) (by assumption)); (exact Lw2.pl (w := w) (f := f) (g := g) (by assumption)); rintro e w6 ⟨rfl, hb6⟩; have I6 := Lw2.below (w := w) (by assumption) hb6)
      | (go_at_call 12; go_split_ands; (with_reducible refine (K1.out _ ?_).mono ?_); (exact Lw2.pl (w := w) (f := f) (g := g) (by assumption)); rintro e w6 ⟨rfl, hb6⟩; have I6 := Lw2.below (w := w) (by assumption) hb6)
      | (go_at_call 12; go_split_ands; (with_reducible refine (K4.out _ ?_).mono ?_); (exact Lw2.pl (w := w) (f := f) (g := g) (by assumption)); rintro e w6 ⟨rfl, hb6⟩; have I6 := Lw2.below (w := w) (by assumption) hb6)
      | (go_at_call 12; go_split_ands; (with_reducible refine (K5.out _ ?_).mono ?_); (exact Lw2.pl (w := w) (f := f) (g := g) (by assumption)); rintro e w6 ⟨rfl, hb6⟩; have I6 := Lw2.below (w := w) (by assumption) hb6)
      | (go_at_call 14; go_split_ands; (with_reducible refine (K2.out _ ?_).mono ?_); (exact Lw2.pl (w := w) (f := f) (g := g) (by assumption)); rintro e w6 ⟨rfl, hb6⟩; have I6 := Lw2.below (w := w) (by assumption) hb6)
      | (go_at_call 14; go_split_ands; (with_reducible refine (K3.out _ ?_).mono ?_); (exact Lw2.pl (w := w) (f := f) (g := g) (by assumption)); rintro e w6 ⟨rfl, hb6⟩; have I6 := Lw2.below (w := w) (by assumption) hb6)))
  all_goals
    go_split_ands
    go_wp2_with fail
    go_returns
    exact ⟨ret_bool (by simp), Lw2.bel (w := w) (f := f) (g := g) (by assumption)⟩
end Go.Proofs.YtbhibkhmjdleoaaDoor
