/- Layer 3: a digest's text, and its reading, walked. -/
import Derived.Test.YtekpfpikbgiblaaDoorDgQ
import Derived.Test.YtekpfpikbgiblaaDoorHxB
import Derived.Test.YtekpfpikbgiblaaDoorDgT
namespace Go.Proofs.YtekpfpikbgiblaaDoor
open Go.RowKit

set_option maxHeartbeats 1000000 in
theorem digest_Text (f : Nat → UInt32) (w : World) (hT : Small w) :
    Calls Tryd.prog 16 #[.agg (dgv f)] w fun e w' => (∃ t, e = .returned (.string t) ∧ Hid (t.data.toList = hexT (beB f))) ∧ Below w.heap.size w w' := by
  unfold dgv
  simp only [wv]
  obtain ⟨x0, h0⟩ : ∃ x, f 0 = x := ⟨_, rfl⟩
  obtain ⟨x1, h1⟩ : ∃ x, f 1 = x := ⟨_, rfl⟩
  obtain ⟨x2, h2⟩ : ∃ x, f 2 = x := ⟨_, rfl⟩
  obtain ⟨x3, h3⟩ : ∃ x, f 3 = x := ⟨_, rfl⟩
  have HB : Hid (beB f = be4 x0 ++ be4 x1 ++ be4 x2 ++ be4 x3) := by unfold Hid beB; rw [h0, h1, h2, h3]
  rw [h0, h1, h2, h3]
  clear h0 h1 h2 h3
  have b0 := x0.toNat_lt
  have b1 := x1.toNat_lt
  have b2 := x2.toNat_lt
  have b3 := x3.toNat_lt
  go_enter Tryd.func16, Tryd.ntmps16
  go_wp2_with (at_make; refine wpList_make_row _ rfl _ _ 28 rfl (w.heap.size + 1) 5 (.int .u8 0) 1 1 Tryd.underlying28 info_u8 _ _ _ 16 rfl rfl rfl (by omega) (by omega) (by simp) ?_; intro v0 w0 hown0 hb0 hg0 hv0; have hM := (Blk.new w 25 #[.int .u32 x0.toNat, .int .u32 x1.toNat, .int .u32 x2.toNat, .int .u32 x3.toNat]).below hb0 (Nat.lt_succ_self _); have c0 := hM.cell 0; have c1 := hM.cell 1; have c2 := hM.cell 2; have c3 := hM.cell 3)
  clear c0 c1 c2 c3 hM hg0 hv0
  have bel0 : Below w.heap.size w w0 := ((Below.refl _ w).alloc (Nat.le_refl _) _).trans (hb0.mono (Nat.le_succ _))
  have sz0 : w.heap.size + 1 ≤ w0.heap.size := by have := hb0.size; simpa using this
  clear hb0
  have i0 : ∀ w : World, (Instr.index 25 (.agg #[.int .u32 x0.toNat, .int .u32 x1.toNat, .int .u32 x2.toNat, .int .u32 x3.toNat]) (.int .i64 0)).run Tryd.prog w = .ok (.int .u32 x0.toNat) w := fun _ => by kernel_rfl
  have i1 : ∀ w : World, (Instr.index 25 (.agg #[.int .u32 x0.toNat, .int .u32 x1.toNat, .int .u32 x2.toNat, .int .u32 x3.toNat]) (.int .i64 1)).run Tryd.prog w = .ok (.int .u32 x1.toNat) w := fun _ => by kernel_rfl
  have i2 : ∀ w : World, (Instr.index 25 (.agg #[.int .u32 x0.toNat, .int .u32 x1.toNat, .int .u32 x2.toNat, .int .u32 x3.toNat]) (.int .i64 2)).run Tryd.prog w = .ok (.int .u32 x2.toNat) w := fun _ => by kernel_rfl
  have i3 : ∀ w : World, (Instr.index 25 (.agg #[.int .u32 x0.toNat, .int .u32 x1.toNat, .int .u32 x2.toNat, .int .u32 x3.toNat]) (.int .i64 3)).run Tryd.prog w = .ok (.int .u32 x3.toNat) w := fun _ => by kernel_rfl
  refine wp_loop_rounds 5 ?_
  rw [rounds_succ]
  go_wp2_with (at_builtin; refine wpList_append_new rfl _ _ 28 rfl (w.heap.size + 1) (.int .u8 0) 1 1 Tryd.underlying28 info_u8 rfl (by decide) _ 0 _ rfl hown0 4 rfl rfl (by simp [Value.oneCell']) (by omega) (by omega) sz0 ?_; intro v1 w1 hown1 hb1 _)
  have bel1 := bel0.trans (hb1.mono (Nat.le_succ _))
  have sz1 := Nat.le_trans sz0 hb1.size
  clear hown0 hb1 bel0
  rw [rounds_succ]
  go_wp2_with (at_builtin; refine wpList_append_new rfl _ _ 28 rfl (w.heap.size + 1) (.int .u8 0) 1 1 Tryd.underlying28 info_u8 rfl (by decide) _ 4 _ rfl hown1 4 rfl rfl (by simp [Value.oneCell']) (by omega) (by omega) sz1 ?_; intro v2 w2 hown2 hb2 _)
  have bel2 := bel1.trans (hb2.mono (Nat.le_succ _))
  have sz2 := Nat.le_trans sz1 hb2.size
  clear hown1 hb2 bel1
  rw [rounds_succ]
  go_wp2_with (at_builtin; refine wpList_append_new rfl _ _ 28 rfl (w.heap.size + 1) (.int .u8 0) 1 1 Tryd.underlying28 info_u8 rfl (by decide) _ 8 _ rfl hown2 4 rfl rfl (by simp [Value.oneCell']) (by omega) (by omega) sz2 ?_; intro v3 w3 hown3 hb3 _)
  have bel3 := bel2.trans (hb3.mono (Nat.le_succ _))
  have sz3 := Nat.le_trans sz2 hb3.size
  clear hown2 hb3 bel2
  rw [rounds_succ]
  go_wp2_with (at_builtin; refine wpList_append_new rfl _ _ 28 rfl (w.heap.size + 1) (.int .u8 0) 1 1 Tryd.underlying28 info_u8 rfl (by decide) _ 12 _ rfl hown3 4 rfl rfl (by simp [Value.oneCell']) (by omega) (by omega) sz3 ?_; intro v4 w4 hown4 hb4 _)
  have bel4 := bel3.trans (hb4.mono (Nat.le_succ _))
  have sz4 := Nat.le_trans sz3 hb4.size
  clear hown3 hb4 bel3
  have hrow : w4.ownsRow (w.heap.size + 1) 5 1 v4 16 ((beB f).map bv) := by
    rw [HB.out, List.map_append, List.map_append, List.map_append, be4_vals, be4_vals, be4_vals, be4_vals]
    exact hown4
  have hl16 : (beB f).length = 16 := by rw [HB.out]; rfl
  clear hown4 i0 i1 i2 i3
  obtain ⟨s, hconv, hS⟩ := string_row _ 28 9 Tryd.underlying28 Tryd.underlying5 Tryd.underlying9 hrow
  have hsz : s.size ≤ 1000000000000 := by have h := congrArg List.length hS.out; rw [hl16] at h; have h2 : s.data.toList.length = s.size := rfl; omega
  clear hl16 hrow
  rw [rounds_succ]
  go_wp2_with fail
  refine (hex_Text s _ hsz (hT.below bel4 hT.1)).mono ?_
  rintro e w5 ⟨⟨t, rfl, ht⟩, hb5⟩
  go_wp2_with fail
  go_returns
  exact ⟨⟨t, rfl, by unfold Hid; rw [ht.out, hS.out]⟩, bel4.trans (hb5.mono bel4.size)⟩
end Go.Proofs.YtekpfpikbgiblaaDoor
