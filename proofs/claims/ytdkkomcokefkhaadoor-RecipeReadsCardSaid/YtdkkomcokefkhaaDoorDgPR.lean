/- Layer 3: the document's pairs of digests, walked. -/
import Derived.Test.YtdkkomcokefkhaaDoorDgP
import Derived.Deep.DrawnRows
namespace Go.Proofs.YtdkkomcokefkhaaDoor
open Go.RowKit
attribute [local go_sem ↓] Go.wp_at_zero Go.wp_at_succ

theorem Pr.alloc {w W : World} {a b : Nat → UInt32} (h : Pr w a b W) (o : Obj) : Pr w a b (W.alloc o) := h.below ((Below.refl _ W).alloc (Nat.le_refl _) o)
theorem Pr.far1 {w W : World} {a b : Nat → UInt32} (h : Pr w a b W) {p : Addr} (hp : w.heap.size + 1 + 1 < p.block) (u : Value) : Pr w a b (W.setCell p u) :=
  ⟨h.x.far (by omega) u, h.y.far (by omega) u, h.z.far (by omega) u, h.bel.setCell (by omega) u⟩
theorem pr_new {w W : World} {a b : Nat → UInt32} (h : Pr w a b W) (N : Nat → UInt32) : St (W.alloc (.cells #[.int .u32 (N 0).toNat, .int .u32 (N 1).toNat, .int .u32 (N 2).toNat, .int .u32 (N 3).toNat, .int .u32 (N 4).toNat, .int .u32 (N 5).toNat, .int .u32 (N 6).toNat, .int .u32 (N 7).toNat] 56)) W.heap.size N ∧ Pr w a b (W.alloc (.cells #[.int .u32 (N 0).toNat, .int .u32 (N 1).toNat, .int .u32 (N 2).toNat, .int .u32 (N 3).toNat, .int .u32 (N 4).toNat, .int .u32 (N 5).toNat, .int .u32 (N 6).toNat, .int .u32 (N 7).toNat] 56)) := ⟨Blk.new W _ _, h.alloc _⟩
theorem pr_fill {w W : World} {a b : Nat → UInt32} {g : Nat} (h : Pr w a b W) (hT : Blk W g 56 zero8) (hg : w.heap.size + 1 + 1 < g) (N : Nat → UInt32) : St (((((((((W).setCell ⟨g, 0, none⟩ (.int .u32 (N 0).toNat)).setCell ⟨g, 1, none⟩ (.int .u32 (N 1).toNat)).setCell ⟨g, 2, none⟩ (.int .u32 (N 2).toNat)).setCell ⟨g, 3, none⟩ (.int .u32 (N 3).toNat)).setCell ⟨g, 4, none⟩ (.int .u32 (N 4).toNat)).setCell ⟨g, 5, none⟩ (.int .u32 (N 5).toNat)).setCell ⟨g, 6, none⟩ (.int .u32 (N 6).toNat)).setCell ⟨g, 7, none⟩ (.int .u32 (N 7).toNat)) g N ∧ Pr w a b (((((((((W).setCell ⟨g, 0, none⟩ (.int .u32 (N 0).toNat)).setCell ⟨g, 1, none⟩ (.int .u32 (N 1).toNat)).setCell ⟨g, 2, none⟩ (.int .u32 (N 2).toNat)).setCell ⟨g, 3, none⟩ (.int .u32 (N 3).toNat)).setCell ⟨g, 4, none⟩ (.int .u32 (N 4).toNat)).setCell ⟨g, 5, none⟩ (.int .u32 (N 5).toNat)).setCell ⟨g, 6, none⟩ (.int .u32 (N 6).toNat)).setCell ⟨g, 7, none⟩ (.int .u32 (N 7).toNat)) :=
  ⟨Blk.fill hT (wv (N 0)) (wv (N 1)) (wv (N 2)) (wv (N 3)) (wv (N 4)) (wv (N 5)) (wv (N 6)) (wv (N 7)), ((((((((h).far1 (p := ⟨g, 0, none⟩) hg _).far1 (p := ⟨g, 1, none⟩) hg _).far1 (p := ⟨g, 2, none⟩) hg _).far1 (p := ⟨g, 3, none⟩) hg _).far1 (p := ⟨g, 4, none⟩) hg _).far1 (p := ⟨g, 5, none⟩) hg _).far1 (p := ⟨g, 6, none⟩) hg _).far1 (p := ⟨g, 7, none⟩) hg _⟩
set_option maxHeartbeats 4000000 in
theorem ref_Pair (a b : Nat → UInt32) (w : World) :
    Calls Tryd.prog 27 #[.agg (dgv a), .agg (dgv b)] w fun e w' => e = .returned (.agg (dgv (pairD a b))) ∧ Below w.heap.size w w' := by
  obtain ⟨M, hM⟩ : ∃ M, absorb two0 a = M := ⟨_, rfl⟩
  have hN0 : pairD a b = absorb M b := by unfold pairD; rw [hM]
  obtain ⟨N, hN⟩ : ∃ N, absorb M b = N := ⟨_, rfl⟩
  rw [hN0, hN]
  have k1 : ∀ W : World, Calls Tryd.prog 38 #[.agg #[.int .u32 2, .int .u32 0, .int .u32 0, .int .u32 0, .int .u32 0, .int .u32 0, .int .u32 0, .int .u32 0], .agg #[.int .u32 (a 0).toNat, .int .u32 (a 1).toNat, .int .u32 (a 2).toNat, .int .u32 (a 3).toNat]] W fun e W' => e = .returned (.agg (stv M)) ∧ Below W.heap.size W W' := fun W => by rw [← hM, ← two0_vals]; exact ref_take two0 a W
  have k2 : ∀ W : World, Calls Tryd.prog 38 #[.agg (stv M), .agg #[.int .u32 (b 0).toNat, .int .u32 (b 1).toNat, .int .u32 (b 2).toNat, .int .u32 (b 3).toNat]] W fun e W' => e = .returned (.agg #[.int .u32 (N 0).toNat, .int .u32 (N 1).toNat, .int .u32 (N 2).toNat, .int .u32 (N 3).toNat, .int .u32 (N 4).toNat, .int .u32 (N 5).toNat, .int .u32 (N 6).toNat, .int .u32 (N 7).toNat]) ∧ Below W.heap.size W W' := fun W => by have h := ref_take M b W; rw [hN] at h; exact h
  have K1 := Lib.hid k1
  have K2 := Lib.hid k2
  clear k1 k2 hM hN hN0
  go_enter Tryd.func27, Tryd.ntmps27
  go_wp2_with fail
  have hm := Pr.new w a b
  generalize World.alloc _ _ = W0 at hm ⊢
  obtain ⟨⟨x0, x1, x2, x3⟩, ⟨y0, y1, y2, y3⟩, ⟨z0, f0, z1, f1, z2, f2, z3, f3⟩⟩ := hm.all; have l0 := hm.x.lt; have l1 := hm.y.lt; have l2 := hm.z.lt
  go_region_law ((first
    | (refine step_call rfl 38 #[.agg #[.int .u32 2, .int .u32 0, .int .u32 0, .int .u32 0, .int .u32 0, .int .u32 0, .int .u32 0, .int .u32 0], .agg #[.int .u32 (a 0).toNat, .int .u32 (a 1).toNat, .int .u32 (a 2).toNat, .int .u32 (a 3).toNat]] _ (by as_aux_lemma => kernel_rfl) (K1.out _) ?_; rintro e w6 ⟨rfl, hb6⟩; (first | (replace hm := hm.below hb6; have hT := trivial) | (replace hm := hm.drew.below hb6; have hT := trivial) | (replace hm := hm.drew.drew.below hb6; have hT := trivial) | (have hg := l2; have hT := (Blk.new _ 56 zero8).below hb6 (by simp); replace hm := (hm.drew.alloc _).below hb6; have t0 := Blk.cell hT 0; have u0 := Blk.frozen hT 0; have t1 := Blk.cell hT 1; have u1 := Blk.frozen hT 1; have t2 := Blk.cell hT 2; have u2 := Blk.frozen hT 2; have t3 := Blk.cell hT 3; have u3 := Blk.frozen hT 3; have t4 := Blk.cell hT 4; have u4 := Blk.frozen hT 4; have t5 := Blk.cell hT 5; have u5 := Blk.frozen hT 5; have t6 := Blk.cell hT 6; have u6 := Blk.frozen hT 6; have t7 := Blk.cell hT 7; have u7 := Blk.frozen hT 7) | (have hg := l2; have hT := (Blk.new _ 56 zero8).drew.below hb6 (by simp); replace hm := (hm.alloc _).drew.below hb6; have t0 := Blk.cell hT 0; have u0 := Blk.frozen hT 0; have t1 := Blk.cell hT 1; have u1 := Blk.frozen hT 1; have t2 := Blk.cell hT 2; have u2 := Blk.frozen hT 2; have t3 := Blk.cell hT 3; have u3 := Blk.frozen hT 3; have t4 := Blk.cell hT 4; have u4 := Blk.frozen hT 4; have t5 := Blk.cell hT 5; have u5 := Blk.frozen hT 5; have t6 := Blk.cell hT 6; have u6 := Blk.frozen hT 6; have t7 := Blk.cell hT 7; have u7 := Blk.frozen hT 7)); clear x0 x1 x2 x3 y0 y1 y2 y3 z0 z1 z2 z3 f0 f1 f2 f3 l0 l1 l2; obtain ⟨⟨x0, x1, x2, x3⟩, ⟨y0, y1, y2, y3⟩, ⟨z0, f0, z1, f1, z2, f2, z3, f3⟩⟩ := hm.all; have l0 := hm.x.lt; have l1 := hm.y.lt; have l2 := hm.z.lt; refine ⟨_, rfl, ?_⟩)
    | (refine step_call rfl 38 #[.agg (stv M), .agg #[.int .u32 (b 0).toNat, .int .u32 (b 1).toNat, .int .u32 (b 2).toNat, .int .u32 (b 3).toNat]] _ (by as_aux_lemma => kernel_rfl) (K2.out _) ?_; rintro e w6 ⟨rfl, hb6⟩; (first | ((try replace hT := Blk.below hT hb6 (Blk.lt hT)); replace hm := hm.below hb6; (try (have t0 := Blk.cell hT 0; have u0 := Blk.frozen hT 0; have t1 := Blk.cell hT 1; have u1 := Blk.frozen hT 1; have t2 := Blk.cell hT 2; have u2 := Blk.frozen hT 2; have t3 := Blk.cell hT 3; have u3 := Blk.frozen hT 3; have t4 := Blk.cell hT 4; have u4 := Blk.frozen hT 4; have t5 := Blk.cell hT 5; have u5 := Blk.frozen hT 5; have t6 := Blk.cell hT 6; have u6 := Blk.frozen hT 6; have t7 := Blk.cell hT 7; have u7 := Blk.frozen hT 7))) | (have hg := l2; have hT2 := (Blk.new _ 56 zero8).below hb6 (by simp); replace hm := (hm.alloc _).below hb6; clear hT; have hT := hT2; have t0 := Blk.cell hT 0; have u0 := Blk.frozen hT 0; have t1 := Blk.cell hT 1; have u1 := Blk.frozen hT 1; have t2 := Blk.cell hT 2; have u2 := Blk.frozen hT 2; have t3 := Blk.cell hT 3; have u3 := Blk.frozen hT 3; have t4 := Blk.cell hT 4; have u4 := Blk.frozen hT 4; have t5 := Blk.cell hT 5; have u5 := Blk.frozen hT 5; have t6 := Blk.cell hT 6; have u6 := Blk.frozen hT 6; have t7 := Blk.cell hT 7; have u7 := Blk.frozen hT 7)); clear x0 x1 x2 x3 y0 y1 y2 y3 z0 z1 z2 z3 f0 f1 f2 f3 l0 l1 l2; obtain ⟨⟨x0, x1, x2, x3⟩, ⟨y0, y1, y2, y3⟩, ⟨z0, f0, z1, f1, z2, f2, z3, f3⟩⟩ := hm.all; have l0 := hm.x.lt; have l1 := hm.y.lt; have l2 := hm.z.lt; refine ⟨_, rfl, ?_⟩)))
  all_goals
    clear x0 x1 x2 x3 y0 y1 y2 y3 z0 z1 z2 z3 f0 f1 f2 f3 l0 l1 l2
    (try clear t0 u0 t1 u1 t2 u2 t3 u3 t4 u4 t5 u5 t6 u6 t7 u7)
    first
      | (have hg2 := hg
         obtain ⟨hS, hm2⟩ := pr_fill hm hT (by simpa using hg2) N
         generalize World.setCell _ _ _ = Wf at hS hm2 ⊢)
      | (obtain ⟨hS, hm2⟩ := pr_new hm N
         generalize World.alloc _ _ = Wf at hS hm2 ⊢)
    clear hm hT
    obtain ⟨_, _, ⟨z0, f0, z1, f1, z2, f2, z3, f3⟩⟩ := hm2.all
    have s0 := hS.cell 0 (by decide)
    have s1 := hS.cell 1 (by decide)
    have s2 := hS.cell 2 (by decide)
    have s3 := hS.cell 3 (by decide)
    go_wp2_with fail
    obtain ⟨W4, hW4, hR4, hb4⟩ := hm2.z.out4 hm2.bel (by omega) (.int .u32 (N 0).toNat) (.int .u32 (N 1).toNat) (.int .u32 (N 2).toNat) (.int .u32 (N 3).toNat)
    rw [← hW4]
    have r0 := hR4.cell 0
    have r1 := hR4.cell 1
    have r2 := hR4.cell 2
    have r3 := hR4.cell 3
    refine bodyPost_ret (by simp [results, Tryd.results27, go_sem, r0, r1, r2, r3]; try rfl) rfl ?_
    exact ⟨rfl, hb4⟩
end Go.Proofs.YtdkkomcokefkhaaDoor
