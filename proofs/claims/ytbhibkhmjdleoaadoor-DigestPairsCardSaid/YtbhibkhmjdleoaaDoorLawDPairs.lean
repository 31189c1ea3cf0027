/- DigestPairs: the law's own text, walked. -/
import Derived.Test.YtbhibkhmjdleoaaDoorDgPR
import Derived.Test.YtbhibkhmjdleoaaDoorDgL
namespace Go.Proofs.YtbhibkhmjdleoaaDoor
open Go.RowKit

set_option maxHeartbeats 4000000 in
theorem pairs_walk (a b : Nat → UInt32) (w : World) (hT : Small w) (hP : Places w) :
    Calls Tryd.prog 7 #[.agg (dgv a), .agg (dgv b)] w fun e w' => e = .returned (.bool true) ∧ Below w.heap.size w w' := by
  obtain ⟨M, hM⟩ : ∃ M, pairD a b = M := ⟨_, rfl⟩
  obtain ⟨N, hN⟩ : ∃ N, pairD b a = N := ⟨_, rfl⟩
  have k1 : ∀ W : World, Places W → Calls Tryd.prog 20 #[.agg #[.int .u32 (a 0).toNat, .int .u32 (a 1).toNat, .int .u32 (a 2).toNat, .int .u32 (a 3).toNat], .agg #[.int .u32 (b 0).toNat, .int .u32 (b 1).toNat, .int .u32 (b 2).toNat, .int .u32 (b 3).toNat]] W fun e W' => e = .returned (.agg (dgv M)) ∧ Below W.heap.size W W' := fun W h => by rw [← hM]; exact digest_Pair a b W h
  have k2 : ∀ W : World, Places W → Calls Tryd.prog 20 #[.agg #[.int .u32 (b 0).toNat, .int .u32 (b 1).toNat, .int .u32 (b 2).toNat, .int .u32 (b 3).toNat], .agg #[.int .u32 (a 0).toNat, .int .u32 (a 1).toNat, .int .u32 (a 2).toNat, .int .u32 (a 3).toNat]] W fun e W' => e = .returned (.agg (dgv N)) ∧ Below W.heap.size W W' := fun W h => by rw [← hN]; exact digest_Pair b a W h
  have k3 : ∀ W : World, Calls Tryd.prog 21 #[.agg #[.int .u32 (a 0).toNat, .int .u32 (a 1).toNat, .int .u32 (a 2).toNat, .int .u32 (a 3).toNat], .agg #[.int .u32 (b 0).toNat, .int .u32 (b 1).toNat, .int .u32 (b 2).toNat, .int .u32 (b 3).toNat]] W fun e W' => e = .returned (.agg (dgv M)) ∧ Below W.heap.size W W' := fun W => by rw [← hM]; exact ref_Pair a b W
  have k4 : ∀ W : World, Calls Tryd.prog 21 #[.agg #[.int .u32 (b 0).toNat, .int .u32 (b 1).toNat, .int .u32 (b 2).toNat, .int .u32 (b 3).toNat], .agg #[.int .u32 (a 0).toNat, .int .u32 (a 1).toNat, .int .u32 (a 2).toNat, .int .u32 (a 3).toNat]] W fun e W' => e = .returned (.agg (dgv N)) ∧ Below W.heap.size W W' := fun W => by rw [← hN]; exact ref_Pair b a W
  have e1 : ∀ W : World, (Op.equalIn 10000 29 (.agg (dgv M)) (.agg (dgv M))).run Tryd.prog W = .ok true W := fun W => (eqD_run M M W).trans (by rw [show eqD M M = true from decide_eq_true ⟨rfl, rfl, rfl, rfl⟩])
  have e2 : ∀ W : World, (Op.equalIn 10000 29 (.agg (dgv N)) (.agg (dgv N))).run Tryd.prog W = .ok true W := fun W => (eqD_run N N W).trans (by rw [show eqD N N = true from decide_eq_true ⟨rfl, rfl, rfl, rfl⟩])
  have K1 := Lib.hid k1
  have K2 := Lib.hid k2
  have K3 := Lib.hid k3
  have K4 := Lib.hid k4
  clear k1 k2 k3 k4 hM hN
  go_enter Tryd.func7, Tryd.ntmps7
  go_wp2_with fail
  have hA := Pl.new w a b hT hP
  generalize World.alloc _ _ = W0 at hA ⊢
  go_region_held3 (fun W => (W.cell? ⟨w.heap.size, 0, none⟩ = some (.int .u32 (a 0).toNat) ∧ W.cell? ⟨w.heap.size, 1, none⟩ = some (.int .u32 (a 1).toNat) ∧ W.cell? ⟨w.heap.size, 2, none⟩ = some (.int .u32 (a 2).toNat) ∧ W.cell? ⟨w.heap.size, 3, none⟩ = some (.int .u32 (a 3).toNat)) ∧ (W.cell? ⟨w.heap.size + 1, 0, none⟩ = some (.int .u32 (b 0).toNat) ∧ W.cell? ⟨w.heap.size + 1, 1, none⟩ = some (.int .u32 (b 1).toNat) ∧ W.cell? ⟨w.heap.size + 1, 2, none⟩ = some (.int .u32 (b 2).toNat) ∧ W.cell? ⟨w.heap.size + 1, 3, none⟩ = some (.int .u32 (b 3).toNat)) ∧ Pl w a b W) ((refine Pl.all ?_; repeat (first | assumption | (refine Pl.drew ?_))))
    ((first
      | (go_at_call 11; go_split_ands; (with_reducible refine (dg_awake _ ?_ ?_).mono ?_); (exact Pl.sm (w := w) (a := a) (b := b) (by assumption)); (exact Pl.pl (w := w) (a := a) (b := b) (by assumption)); rintro e w6 ⟨rfl, hb6⟩; have I6 := Pl.below (w := w) (by assumption) hb6)
      | (go_at_call 20; go_split_ands; (with_reducible refine (K1.out _ ?_).mono ?_); (exact Pl.pl (w := w) (a := a) (b := b) (by assumption)); rintro e w6 ⟨rfl, hb6⟩; have I6 := Pl.below (w := w) (by assumption) hb6)
      | (go_at_call 20; go_split_ands; (with_reducible refine (K2.out _ ?_).mono ?_); (exact Pl.pl (w := w) (a := a) (b := b) (by assumption)); rintro e w6 ⟨rfl, hb6⟩; have I6 := Pl.below (w := w) (by assumption) hb6)
      | (go_at_call 21; go_split_ands; (with_reducible refine (K3.out _ ).mono ?_); rintro e w6 ⟨rfl, hb6⟩; have I6 := Pl.below (w := w) (by assumption) hb6)
      | (go_at_call 21; go_split_ands; (with_reducible refine (K4.out _ ).mono ?_); rintro e w6 ⟨rfl, hb6⟩; have I6 := Pl.below (w := w) (by assumption) hb6)))
  all_goals
    go_split_ands
    go_wp2_with fail
    go_returns
    exact ⟨rfl, Pl.bel (w := w) (a := a) (b := b) (by assumption)⟩
end Go.Proofs.YtbhibkhmjdleoaaDoor
