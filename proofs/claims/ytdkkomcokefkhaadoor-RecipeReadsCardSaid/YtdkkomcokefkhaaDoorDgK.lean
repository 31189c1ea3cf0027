/- Layer 3: a block is taken in. -/
import Derived.Test.YtdkkomcokefkhaaDoorDgW
namespace Go.Proofs.YtdkkomcokefkhaaDoor
open Go.RowKit

def xorTo (f b : Nat → UInt32) (j : Nat) : Nat → UInt32 := fun k => if k < j then f k ^^^ b k else f k
def absorb (f b : Nat → UInt32) : Nat → UInt32 := mix (xorTo f b 4)
theorem xorTo_zero (f b : Nat → UInt32) : xorTo f b 0 = f := by funext k; unfold xorTo; rw [if_neg (by omega)]
theorem xorTo_step (f b : Nat → UInt32) (j : Nat) : sup (xorTo f b j) j (f j ^^^ b j) = xorTo f b (j + 1) := by
  funext k
  unfold sup xorTo
  by_cases h : k = j
  · subst h; rw [if_pos rfl, if_pos (by omega)]
  · rw [if_neg h]
    by_cases h2 : k < j
    · rw [if_pos h2, if_pos (by omega)]
    · rw [if_neg h2, if_neg (by omega)]
theorem xorTo_at (f b : Nat → UInt32) (j : Nat) : xorTo f b j j = f j := by unfold xorTo; rw [if_neg (by omega)]

/-- The boxes of 'take': the state, the block, the result. -/
structure Tk (tb : TypeId) (w : World) (b f : Nat → UInt32) (W : World) : Prop where
  st : St W w.heap.size f
  bl : Blk W (w.heap.size + 1) tb (dgv b)
  z : Blk W (w.heap.size + 2) 56 zero8
  bel : Below w.heap.size w W
section
variable {tb : TypeId} {w W W' : World} {b f : Nat → UInt32}
theorem Tk.new (tb : TypeId) (w : World) (b f : Nat → UInt32) : Tk tb w b f (((w.alloc (.cells (stv f) 56)).alloc (.cells (dgv b) tb)).alloc (.cells zero8 56)) := by
  refine ⟨((Blk.new w _ _).alloc _).alloc _, ?_, ?_, (((Below.refl _ w).alloc (Nat.le_refl _) _).alloc (by simp) _).alloc (by simp; omega) _⟩
  · have h := (Blk.new (w.alloc (.cells (stv f) 56)) tb (dgv b)).alloc (.cells zero8 56)
    simpa using h
  · have h := Blk.new ((w.alloc (.cells (stv f) 56)).alloc (.cells (dgv b) tb)) 56 zero8
    simpa using h
theorem Tk.set (h : Tk tb w b f W) (i : Nat) (hi : i < 8) (v : UInt32) : Tk tb w b (sup f i v) (W.setCell ⟨w.heap.size, i, none⟩ (.int .u32 v.toNat)) :=
  ⟨h.st.set i hi v, h.bl.far (p := ⟨w.heap.size, i, none⟩) (by simp) _, h.z.far (p := ⟨w.heap.size, i, none⟩) (by simp) _, h.bel.setCell (p := ⟨w.heap.size, i, none⟩) (Nat.le_refl _) _⟩
theorem Tk.drew (h : Tk tb w b f W) : Tk tb w b f W.drew := ⟨h.st.drew, h.bl.drew, h.z.drew, h.bel.drew⟩
theorem Tk.below (h : Tk tb w b f W) (hb : Below W.heap.size W W') : Tk tb w b f W' := ⟨h.st.below hb h.st.lt, h.bl.below hb h.bl.lt, h.z.below hb h.z.lt, h.bel.trans (hb.mono h.bel.size)⟩
theorem Tk.out (h : Tk tb w b f W) (R : Nat → UInt32) : ∃ W8, W8 = ((((((((W).setCell ⟨w.heap.size + 2, 0, none⟩ (.int .u32 (R 0).toNat)).setCell ⟨w.heap.size + 2, 1, none⟩ (.int .u32 (R 1).toNat)).setCell ⟨w.heap.size + 2, 2, none⟩ (.int .u32 (R 2).toNat)).setCell ⟨w.heap.size + 2, 3, none⟩ (.int .u32 (R 3).toNat)).setCell ⟨w.heap.size + 2, 4, none⟩ (.int .u32 (R 4).toNat)).setCell ⟨w.heap.size + 2, 5, none⟩ (.int .u32 (R 5).toNat)).setCell ⟨w.heap.size + 2, 6, none⟩ (.int .u32 (R 6).toNat)).setCell ⟨w.heap.size + 2, 7, none⟩ (.int .u32 (R 7).toNat) ∧ Blk W8 (w.heap.size + 2) 56 (stv R) ∧ Below w.heap.size w W8 :=
  ⟨_, rfl, Blk.fill h.z (wv (R 0)) (wv (R 1)) (wv (R 2)) (wv (R 3)) (wv (R 4)) (wv (R 5)) (wv (R 6)) (wv (R 7)), ((((((((h.bel).setCell (p := ⟨w.heap.size + 2, 0, none⟩) (Nat.le_add_right _ 2) _).setCell (p := ⟨w.heap.size + 2, 1, none⟩) (Nat.le_add_right _ 2) _).setCell (p := ⟨w.heap.size + 2, 2, none⟩) (Nat.le_add_right _ 2) _).setCell (p := ⟨w.heap.size + 2, 3, none⟩) (Nat.le_add_right _ 2) _).setCell (p := ⟨w.heap.size + 2, 4, none⟩) (Nat.le_add_right _ 2) _).setCell (p := ⟨w.heap.size + 2, 5, none⟩) (Nat.le_add_right _ 2) _).setCell (p := ⟨w.heap.size + 2, 6, none⟩) (Nat.le_add_right _ 2) _).setCell (p := ⟨w.heap.size + 2, 7, none⟩) (Nat.le_add_right _ 2) _⟩
theorem tk_rel (h : Nat) (hj : h < 4) (hm : Tk tb w b (xorTo f b (h + 1)) W) : ∃ jj : Nat, jj ≤ 4 ∧ Value.int .i64 ((h : Int) + 1) = .int .i64 jj ∧ Tk tb w b (xorTo f b jj) W := ⟨h + 1, hj, rfl, hm⟩
end

set_option maxHeartbeats 2000000 in
theorem ref_take (f b : Nat → UInt32) (w : World) :
    Calls Tryd.prog 38 #[.agg (stv f), .agg (dgv b)] w fun e w' => e = .returned (.agg (stv (absorb f b))) ∧ Below w.heap.size w w' := by
  obtain ⟨X, hX⟩ : ∃ X, xorTo f b 4 = X := ⟨_, rfl⟩
  have habs : absorb f b = mix X := by unfold absorb; rw [hX]
  rw [habs]
  obtain ⟨M, hM⟩ : ∃ M, mix X = M := ⟨_, rfl⟩
  have k1 : ∀ W : World, Calls Tryd.prog 40 #[.agg #[.int .u32 (X 0).toNat, .int .u32 (X 1).toNat, .int .u32 (X 2).toNat, .int .u32 (X 3).toNat, .int .u32 (X 4).toNat, .int .u32 (X 5).toNat, .int .u32 (X 6).toNat, .int .u32 (X 7).toNat]] W fun e W' => e = .returned (.agg (stv M)) ∧ Below W.heap.size W W' := fun W => by rw [← hM]; exact refMixL X W
  rw [hM]
  have K1 := Lib.hid k1
  have HX := Lib.hid hX
  clear k1 hM hX habs
  go_enter Tryd.func38, Tryd.ntmps38
  go_wp2_with fail
  have hA := Tk.new 24 w b f
  go_loopw [5] (fun i wr => ∃ j : Nat, j ≤ 4 ∧ i = .int .i64 j ∧ Tk 24 w b (xorTo f b j) wr) (fun i _ => 4 - (intOf i).toNat)
  case atStart => exact ⟨0, by omega, rfl, by rw [xorTo_zero]; exact hA⟩
  case round =>
    clear hA
    obtain ⟨j, hj, rfl, hm⟩ := hrel
    by_cases hlt : j < 4
    · have hc := hm.st.cell j (by omega)
      rw [xorTo_at] at hc
      have hd := (hm.bl.cell j).trans (dgv_get b j hlt)
      simp only [wv] at hd
      have hf := hm.st.frozen j
      have hjI : (j : Int) < 4 := by omega
      have hj8 : (j : Int) < 8 := by omega
      have hj0 : (0 : Int) ≤ j := by omega
      go_wp2_with fail
      go_region
      rw [w_xor]
      have hm2 := (hm.set j (by omega) (f j ^^^ b j)).drew
      rw [xorTo_step] at hm2
      clear hc hd hf hm
      go_wp2_with fail
      go_roundw
      case rel => first | exact tk_rel j hlt hm2 | ((repeat apply Exists.intro); exact ⟨tk_rel j hlt hm2, rfl⟩)
      case measure => simp [intOf]; omega
    · obtain rfl : j = 4 := by omega
      rw [HX.out] at hm
      have c0 := hm.st.cell 0 (by decide)
      have c1 := hm.st.cell 1 (by decide)
      have c2 := hm.st.cell 2 (by decide)
      have c3 := hm.st.cell 3 (by decide)
      have c4 := hm.st.cell 4 (by decide)
      have c5 := hm.st.cell 5 (by decide)
      have c6 := hm.st.cell 6 (by decide)
      have c7 := hm.st.cell 7 (by decide)
      go_wp2_with fail
      refine (K1.out _).mono ?_
      rintro e w1 ⟨rfl, hb1⟩
      replace hm := hm.below hb1
      clear c0 c1 c2 c3 c4 c5 c6 c7 hb1
      have z0 := hm.z.cell 0
      have y0 := hm.z.frozen 0
      have z1 := hm.z.cell 1
      have y1 := hm.z.frozen 1
      have z2 := hm.z.cell 2
      have y2 := hm.z.frozen 2
      have z3 := hm.z.cell 3
      have y3 := hm.z.frozen 3
      have z4 := hm.z.cell 4
      have y4 := hm.z.frozen 4
      have z5 := hm.z.cell 5
      have y5 := hm.z.frozen 5
      have z6 := hm.z.cell 6
      have y6 := hm.z.frozen 6
      have z7 := hm.z.cell 7
      have y7 := hm.z.frozen 7
      unfold stv
      simp only [wv]
      go_wp2_with fail
      obtain ⟨W8, hW8, hz8, hb8⟩ := hm.out M
      rw [← hW8]
      clear z0 z1 z2 z3 z4 z5 z6 z7 y0 y1 y2 y3 y4 y5 y6 y7 hm hW8
      have r0 := (hz8.cell 0).trans (stv_get M 0 (by decide))
      have r1 := (hz8.cell 1).trans (stv_get M 1 (by decide))
      have r2 := (hz8.cell 2).trans (stv_get M 2 (by decide))
      have r3 := (hz8.cell 3).trans (stv_get M 3 (by decide))
      have r4 := (hz8.cell 4).trans (stv_get M 4 (by decide))
      have r5 := (hz8.cell 5).trans (stv_get M 5 (by decide))
      have r6 := (hz8.cell 6).trans (stv_get M 6 (by decide))
      have r7 := (hz8.cell 7).trans (stv_get M 7 (by decide))
      refine bodyPost_ret (by simp [results, Tryd.results38, go_sem, r0, r1, r2, r3, r4, r5, r6, r7]; try rfl) rfl ?_
      exact ⟨rfl, hb8⟩

set_option maxHeartbeats 1000000 in
theorem digest_front (f : Nat → UInt32) (w : World) :
    Calls Tryd.prog 35 #[.agg (stv f)] w fun e w' => e = .returned (.agg (dgv f)) ∧ Below w.heap.size w w' := by
  have hX : Blk (w.alloc (.cells (stv f) 56)) w.heap.size 56 (stv f) := Blk.new w _ _
  have hX2 : St ((w.alloc (.cells (stv f) 56)).alloc (.cells #[.int .u32 0, .int .u32 0, .int .u32 0, .int .u32 0] 24)) w.heap.size f := hX.alloc _
  have hZ := Blk.new (w.alloc (.cells (stv f) 56)) 24 #[.int .u32 0, .int .u32 0, .int .u32 0, .int .u32 0]
  rw [show (w.alloc (.cells (stv f) 56)).heap.size = w.heap.size + 1 by simp] at hZ
  have bel := ((Below.refl _ w).alloc (Nat.le_refl _) (.cells (stv f) 56)).alloc (by simp) (.cells #[.int .u32 0, .int .u32 0, .int .u32 0, .int .u32 0] 24)
  go_enter Tryd.func35, Tryd.ntmps35
  have c0 := hX2.cell 0 (by decide)
  have z0 := hZ.cell 0
  have y0 := hZ.frozen 0
  have c1 := hX2.cell 1 (by decide)
  have z1 := hZ.cell 1
  have y1 := hZ.frozen 1
  have c2 := hX2.cell 2 (by decide)
  have z2 := hZ.cell 2
  have y2 := hZ.frozen 2
  have c3 := hX2.cell 3 (by decide)
  have z3 := hZ.cell 3
  have y3 := hZ.frozen 3
  go_wp2_with fail
  clear c0 c1 c2 c3 z0 z1 z2 z3 y0 y1 y2 y3
  go_returns
  exact ⟨rfl, ((Below.refl _ w).alloc (Nat.le_refl _) _).alloc (by simp) _⟩

set_option maxHeartbeats 2000000 in
theorem digest_take (f b : Nat → UInt32) (w : World) (hP : Places w) :
    Calls Tryd.prog 33 #[.agg (stv f), .agg (dgv b)] w fun e w' => e = .returned (.agg (stv (absorb f b))) ∧ Below w.heap.size w w' := by
  obtain ⟨X, hX⟩ : ∃ X, xorTo f b 4 = X := ⟨_, rfl⟩
  have habs : absorb f b = mix X := by unfold absorb; rw [hX]
  rw [habs]
  obtain ⟨M, hM⟩ : ∃ M, mix X = M := ⟨_, rfl⟩
  have k1 : ∀ W : World, Places W → Calls Tryd.prog 39 #[.agg #[.int .u32 (X 0).toNat, .int .u32 (X 1).toNat, .int .u32 (X 2).toNat, .int .u32 (X 3).toNat, .int .u32 (X 4).toNat, .int .u32 (X 5).toNat, .int .u32 (X 6).toNat, .int .u32 (X 7).toNat]] W fun e W' => e = .returned (.agg (stv M)) ∧ Below W.heap.size W W' := fun W h => by rw [← hM]; exact mixL X W h
  rw [hM]
  have K1 := Lib.hid k1
  have HX := Lib.hid hX
  clear k1 hM hX habs
  go_enter Tryd.func33, Tryd.ntmps33
  have hA := Tk.new 23 w b f
  have hb0 := (hA.bl.cell 0).trans (dgv_get b 0 (by decide))
  have hb1 := (hA.bl.cell 1).trans (dgv_get b 1 (by decide))
  have hb2 := (hA.bl.cell 2).trans (dgv_get b 2 (by decide))
  have hb3 := (hA.bl.cell 3).trans (dgv_get b 3 (by decide))
  simp only [wv] at hb0 hb1 hb2 hb3
  go_wp2_with fail
  have i0 : ∀ w : World, (Instr.index 23 (.agg #[.int .u32 (b 0).toNat, .int .u32 (b 1).toNat, .int .u32 (b 2).toNat, .int .u32 (b 3).toNat]) (.int .i64 0)).run Tryd.prog w = .ok (.int .u32 (b 0).toNat) w := fun _ => by kernel_rfl
  have i1 : ∀ w : World, (Instr.index 23 (.agg #[.int .u32 (b 0).toNat, .int .u32 (b 1).toNat, .int .u32 (b 2).toNat, .int .u32 (b 3).toNat]) (.int .i64 1)).run Tryd.prog w = .ok (.int .u32 (b 1).toNat) w := fun _ => by kernel_rfl
  have i2 : ∀ w : World, (Instr.index 23 (.agg #[.int .u32 (b 0).toNat, .int .u32 (b 1).toNat, .int .u32 (b 2).toNat, .int .u32 (b 3).toNat]) (.int .i64 2)).run Tryd.prog w = .ok (.int .u32 (b 2).toNat) w := fun _ => by kernel_rfl
  have i3 : ∀ w : World, (Instr.index 23 (.agg #[.int .u32 (b 0).toNat, .int .u32 (b 1).toNat, .int .u32 (b 2).toNat, .int .u32 (b 3).toNat]) (.int .i64 3)).run Tryd.prog w = .ok (.int .u32 (b 3).toNat) w := fun _ => by kernel_rfl
  clear hb0 hb1 hb2 hb3
  obtain ⟨W0, hW0⟩ : ∃ W0, ((w.alloc (.cells (stv f) 56)).alloc (.cells (dgv b) 23)).alloc (.cells zero8 56) = W0 := ⟨_, rfl⟩
  rw [hW0] at hA
  simp only [hW0]
  clear hW0
  refine wp_loop_rounds 5 ?_
  rw [← xorTo_zero f b] at hA
  have c0 := hA.st.cell 0 (by decide)
  rw [xorTo_at] at c0
  have y0 := hA.st.frozen 0
  rw [rounds_succ]
  go_wp2_with fail
  rw [w_xor]
  have hA0 := hA.set 0 (by decide) (f 0 ^^^ b 0)
  rw [xorTo_step] at hA0
  clear c0 y0 hA
  generalize World.setCell _ ⟨w.heap.size, 0, none⟩ _ = W1 at hA0 ⊢
  have c1 := hA0.st.cell 1 (by decide)
  rw [xorTo_at] at c1
  have y1 := hA0.st.frozen 1
  rw [rounds_succ]
  go_wp2_with fail
  rw [w_xor]
  have hA1 := hA0.set 1 (by decide) (f 1 ^^^ b 1)
  rw [xorTo_step] at hA1
  clear c1 y1 hA0
  generalize World.setCell _ ⟨w.heap.size, 1, none⟩ _ = W2 at hA1 ⊢
  have c2 := hA1.st.cell 2 (by decide)
  rw [xorTo_at] at c2
  have y2 := hA1.st.frozen 2
  rw [rounds_succ]
  go_wp2_with fail
  rw [w_xor]
  have hA2 := hA1.set 2 (by decide) (f 2 ^^^ b 2)
  rw [xorTo_step] at hA2
  clear c2 y2 hA1
  generalize World.setCell _ ⟨w.heap.size, 2, none⟩ _ = W3 at hA2 ⊢
  have c3 := hA2.st.cell 3 (by decide)
  rw [xorTo_at] at c3
  have y3 := hA2.st.frozen 3
  rw [rounds_succ]
  go_wp2_with fail
  rw [w_xor]
  have hA3 := hA2.set 3 (by decide) (f 3 ^^^ b 3)
  rw [xorTo_step] at hA3
  clear c3 y3 hA2
  generalize World.setCell _ ⟨w.heap.size, 3, none⟩ _ = W4 at hA3 ⊢
  rw [show (3 + 1 : Nat) = 4 from rfl, HX.out] at hA3
  have c0 := hA3.st.cell 0 (by decide)
  have c1 := hA3.st.cell 1 (by decide)
  have c2 := hA3.st.cell 2 (by decide)
  have c3 := hA3.st.cell 3 (by decide)
  have c4 := hA3.st.cell 4 (by decide)
  have c5 := hA3.st.cell 5 (by decide)
  have c6 := hA3.st.cell 6 (by decide)
  have c7 := hA3.st.cell 7 (by decide)
  rw [rounds_succ]
  go_wp2_with fail
  refine (K1.out _ (hP.below hA3.bel hP.1)).mono ?_
  rintro e w1 ⟨rfl, hb1⟩
  have hm := hA3.below hb1
  clear c0 c1 c2 c3 c4 c5 c6 c7 hb1 hA3
  have z0 := hm.z.cell 0
  have y0 := hm.z.frozen 0
  have z1 := hm.z.cell 1
  have y1 := hm.z.frozen 1
  have z2 := hm.z.cell 2
  have y2 := hm.z.frozen 2
  have z3 := hm.z.cell 3
  have y3 := hm.z.frozen 3
  have z4 := hm.z.cell 4
  have y4 := hm.z.frozen 4
  have z5 := hm.z.cell 5
  have y5 := hm.z.frozen 5
  have z6 := hm.z.cell 6
  have y6 := hm.z.frozen 6
  have z7 := hm.z.cell 7
  have y7 := hm.z.frozen 7
  unfold stv
  simp only [wv]
  go_wp2_with fail
  obtain ⟨W8, hW8, hz8, hb8⟩ := hm.out M
  rw [← hW8]
  clear z0 z1 z2 z3 z4 z5 z6 z7 y0 y1 y2 y3 y4 y5 y6 y7 hm hW8
  have r0 := (hz8.cell 0).trans (stv_get M 0 (by decide))
  have r1 := (hz8.cell 1).trans (stv_get M 1 (by decide))
  have r2 := (hz8.cell 2).trans (stv_get M 2 (by decide))
  have r3 := (hz8.cell 3).trans (stv_get M 3 (by decide))
  have r4 := (hz8.cell 4).trans (stv_get M 4 (by decide))
  have r5 := (hz8.cell 5).trans (stv_get M 5 (by decide))
  have r6 := (hz8.cell 6).trans (stv_get M 6 (by decide))
  have r7 := (hz8.cell 7).trans (stv_get M 7 (by decide))
  refine bodyPost_ret (by simp [results, Tryd.results33, go_sem, r0, r1, r2, r3, r4, r5, r6, r7]; try rfl) rfl ?_
  exact ⟨rfl, hb8⟩
end Go.Proofs.YtdkkomcokefkhaaDoor
