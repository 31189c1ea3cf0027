/- Layer 3: pairs of digests, walked. -/
import Derived.Test.YtdkkomcokefkhaaDoorDgK
namespace Go.Proofs.YtdkkomcokefkhaaDoor
open Go.RowKit

def two0 : Nat → UInt32 := fun k => if k = 0 then 2 else 0
theorem two0_vals : stv two0 = #[.int .u32 2, .int .u32 0, .int .u32 0, .int .u32 0, .int .u32 0, .int .u32 0, .int .u32 0, .int .u32 0] := by rfl
def pairD (a b : Nat → UInt32) : Nat → UInt32 := absorb (absorb two0 a) b
/-- The boxes of 'Pair': both digests, the result. -/
structure Pr (w : World) (a b : Nat → UInt32) (W : World) : Prop where
  x : Blk W w.heap.size 24 (dgv a)
  y : Blk W (w.heap.size + 1) 24 (dgv b)
  z : Blk W (w.heap.size + 1 + 1) 24 #[.int .u32 0, .int .u32 0, .int .u32 0, .int .u32 0]
  bel : Below w.heap.size w W
section
variable {w W W' : World} {a b : Nat → UInt32}
theorem Pr.new (w : World) (a b : Nat → UInt32) : Pr w a b (((w.alloc (.cells (dgv a) 24)).alloc (.cells (dgv b) 24)).alloc (.cells #[.int .u32 0, .int .u32 0, .int .u32 0, .int .u32 0] 24)) := by
  refine ⟨((Blk.new w _ _).alloc _).alloc _, ?_, ?_, (((Below.refl _ w).alloc (Nat.le_refl _) _).alloc (by simp) _).alloc (by simp; omega) _⟩
  · have h := (Blk.new (w.alloc (.cells (dgv a) 24)) 24 (dgv b)).alloc (.cells #[.int .u32 0, .int .u32 0, .int .u32 0, .int .u32 0] 24)
    simpa using h
  · have h := Blk.new ((w.alloc (.cells (dgv a) 24)).alloc (.cells (dgv b) 24)) 24 #[.int .u32 0, .int .u32 0, .int .u32 0, .int .u32 0]
    simpa using h
theorem Pr.drew (h : Pr w a b W) : Pr w a b W.drew := ⟨h.x.drew, h.y.drew, h.z.drew, h.bel.drew⟩
theorem Pr.below (h : Pr w a b W) (hb : Below W.heap.size W W') : Pr w a b W' := ⟨h.x.below hb h.x.lt, h.y.below hb h.y.lt, h.z.below hb h.z.lt, h.bel.trans (hb.mono h.bel.size)⟩
theorem Pr.all (h : Pr w a b W) : (W.cell? ⟨w.heap.size, 0, none⟩ = some (.int .u32 (a 0).toNat) ∧ W.cell? ⟨w.heap.size, 1, none⟩ = some (.int .u32 (a 1).toNat) ∧ W.cell? ⟨w.heap.size, 2, none⟩ = some (.int .u32 (a 2).toNat) ∧ W.cell? ⟨w.heap.size, 3, none⟩ = some (.int .u32 (a 3).toNat)) ∧ (W.cell? ⟨w.heap.size + 1, 0, none⟩ = some (.int .u32 (b 0).toNat) ∧ W.cell? ⟨w.heap.size + 1, 1, none⟩ = some (.int .u32 (b 1).toNat) ∧ W.cell? ⟨w.heap.size + 1, 2, none⟩ = some (.int .u32 (b 2).toNat) ∧ W.cell? ⟨w.heap.size + 1, 3, none⟩ = some (.int .u32 (b 3).toNat)) ∧ (W.cell? ⟨w.heap.size + 1 + 1, 0, none⟩ = some (.int .u32 0) ∧ W.frozen? ⟨w.heap.size + 1 + 1, 0, none⟩ = false ∧ W.cell? ⟨w.heap.size + 1 + 1, 1, none⟩ = some (.int .u32 0) ∧ W.frozen? ⟨w.heap.size + 1 + 1, 1, none⟩ = false ∧ W.cell? ⟨w.heap.size + 1 + 1, 2, none⟩ = some (.int .u32 0) ∧ W.frozen? ⟨w.heap.size + 1 + 1, 2, none⟩ = false ∧ W.cell? ⟨w.heap.size + 1 + 1, 3, none⟩ = some (.int .u32 0) ∧ W.frozen? ⟨w.heap.size + 1 + 1, 3, none⟩ = false) :=
  ⟨⟨(h.x.cell 0).trans (dgv_get a 0 (by decide)), (h.x.cell 1).trans (dgv_get a 1 (by decide)), (h.x.cell 2).trans (dgv_get a 2 (by decide)), (h.x.cell 3).trans (dgv_get a 3 (by decide))⟩, ⟨(h.y.cell 0).trans (dgv_get b 0 (by decide)), (h.y.cell 1).trans (dgv_get b 1 (by decide)), (h.y.cell 2).trans (dgv_get b 2 (by decide)), (h.y.cell 3).trans (dgv_get b 3 (by decide))⟩, ⟨h.z.cell 0, h.z.frozen 0, h.z.cell 1, h.z.frozen 1, h.z.cell 2, h.z.frozen 2, h.z.cell 3, h.z.frozen 3⟩⟩
end

set_option maxHeartbeats 4000000 in
theorem digest_Pair (a b : Nat → UInt32) (w : World) (hP : Places w) :
    Calls Tryd.prog 20 #[.agg (dgv a), .agg (dgv b)] w fun e w' => e = .returned (.agg (dgv (pairD a b))) ∧ Below w.heap.size w w' := by
  obtain ⟨M, hM⟩ : ∃ M, absorb two0 a = M := ⟨_, rfl⟩
  have hN0 : pairD a b = absorb M b := by unfold pairD; rw [hM]
  obtain ⟨N, hN⟩ : ∃ N, absorb M b = N := ⟨_, rfl⟩
  rw [hN0, hN]
  have k1 : ∀ W : World, Places W → Calls Tryd.prog 33 #[.agg #[.int .u32 2, .int .u32 0, .int .u32 0, .int .u32 0, .int .u32 0, .int .u32 0, .int .u32 0, .int .u32 0], .agg #[.int .u32 (a 0).toNat, .int .u32 (a 1).toNat, .int .u32 (a 2).toNat, .int .u32 (a 3).toNat]] W fun e W' => e = .returned (.agg (stv M)) ∧ Below W.heap.size W W' := fun W h => by rw [← hM, ← two0_vals]; exact digest_take two0 a W h
  have k2 : ∀ W : World, Places W → Calls Tryd.prog 33 #[.agg (stv M), .agg #[.int .u32 (b 0).toNat, .int .u32 (b 1).toNat, .int .u32 (b 2).toNat, .int .u32 (b 3).toNat]] W fun e W' => e = .returned (.agg (stv N)) ∧ Below W.heap.size W W' := fun W h => by rw [← hN]; exact digest_take M b W h
  have k3 : ∀ W : World, Calls Tryd.prog 35 #[.agg (stv N)] W fun e W' => e = .returned (.agg #[.int .u32 (N 0).toNat, .int .u32 (N 1).toNat, .int .u32 (N 2).toNat, .int .u32 (N 3).toNat]) ∧ Below W.heap.size W W' := fun W => digest_front N W
  have K1 := Lib.hid k1
  have K2 := Lib.hid k2
  have K3 := Lib.hid k3
  clear k1 k2 k3 hM hN hN0
  go_enter Tryd.func20, Tryd.ntmps20
  go_wp2_with fail
  have hm := Pr.new w a b
  generalize World.alloc _ _ = W0 at hm ⊢
  obtain ⟨⟨x0, x1, x2, x3⟩, ⟨y0, y1, y2, y3⟩, ⟨z0, f0, z1, f1, z2, f2, z3, f3⟩⟩ := hm.all
  go_region_law ((first
    | (refine step_call rfl 33 #[.agg #[.int .u32 2, .int .u32 0, .int .u32 0, .int .u32 0, .int .u32 0, .int .u32 0, .int .u32 0, .int .u32 0], .agg #[.int .u32 (a 0).toNat, .int .u32 (a 1).toNat, .int .u32 (a 2).toNat, .int .u32 (a 3).toNat]] _ (by as_aux_lemma => kernel_rfl) (K1.out _ (hP.below (by first | exact hm.bel | exact hm.drew.bel | exact hm.drew.drew.bel) hP.1)) ?_; rintro e w6 ⟨rfl, hb6⟩; (first | (replace hm := hm.below hb6) | (replace hm := hm.drew.below hb6) | (replace hm := hm.drew.drew.below hb6)); clear x0 x1 x2 x3 y0 y1 y2 y3 z0 z1 z2 z3 f0 f1 f2 f3; obtain ⟨⟨x0, x1, x2, x3⟩, ⟨y0, y1, y2, y3⟩, ⟨z0, f0, z1, f1, z2, f2, z3, f3⟩⟩ := hm.all; refine ⟨_, rfl, ?_⟩)
    | (refine step_call rfl 33 #[.agg (stv M), .agg #[.int .u32 (b 0).toNat, .int .u32 (b 1).toNat, .int .u32 (b 2).toNat, .int .u32 (b 3).toNat]] _ (by as_aux_lemma => kernel_rfl) (K2.out _ (hP.below (by first | exact hm.bel | exact hm.drew.bel | exact hm.drew.drew.bel) hP.1)) ?_; rintro e w6 ⟨rfl, hb6⟩; (first | (replace hm := hm.below hb6) | (replace hm := hm.drew.below hb6) | (replace hm := hm.drew.drew.below hb6)); clear x0 x1 x2 x3 y0 y1 y2 y3 z0 z1 z2 z3 f0 f1 f2 f3; obtain ⟨⟨x0, x1, x2, x3⟩, ⟨y0, y1, y2, y3⟩, ⟨z0, f0, z1, f1, z2, f2, z3, f3⟩⟩ := hm.all; refine ⟨_, rfl, ?_⟩)
    | (refine step_call rfl 35 #[.agg (stv N)] _ (by as_aux_lemma => kernel_rfl) (K3.out _) ?_; rintro e w6 ⟨rfl, hb6⟩; (first | (replace hm := hm.below hb6) | (replace hm := hm.drew.below hb6) | (replace hm := hm.drew.drew.below hb6)); clear x0 x1 x2 x3 y0 y1 y2 y3 z0 z1 z2 z3 f0 f1 f2 f3; obtain ⟨⟨x0, x1, x2, x3⟩, ⟨y0, y1, y2, y3⟩, ⟨z0, f0, z1, f1, z2, f2, z3, f3⟩⟩ := hm.all; refine ⟨_, rfl, ?_⟩)))
  all_goals
    obtain ⟨W4, hW4, hR4, hb4⟩ := hm.z.out4 hm.bel (by omega) (.int .u32 (N 0).toNat) (.int .u32 (N 1).toNat) (.int .u32 (N 2).toNat) (.int .u32 (N 3).toNat)
    rw [← hW4]
    clear x0 x1 x2 x3 y0 y1 y2 y3 z0 z1 z2 z3 f0 f1 f2 f3 hm hW4
    have r0 := hR4.cell 0
    have r1 := hR4.cell 1
    have r2 := hR4.cell 2
    have r3 := hR4.cell 3
    go_wp2_with fail
    refine bodyPost_ret (by simp [results, Tryd.results20, go_sem, r0, r1, r2, r3]; try rfl) rfl ?_
    first | exact ⟨rfl, hb4⟩ | exact ⟨rfl, hb4.drew⟩ | exact ⟨rfl, hb4.drew.drew⟩
end Go.Proofs.YtdkkomcokefkhaaDoor
