/- Layer 3: the document's Mix, walked. -/
import Derived.Test.YtdkkomcokefkhaaDoorDgM
namespace Go.Proofs.YtdkkomcokefkhaaDoor
open Go.RowKit

theorem ref_turns (w : World) :
    Calls Tryd.prog 42 #[] w fun e w' => e = .returned (.agg #[.int .i64 7, .int .i64 9, .int .i64 13, .int .i64 18]) ∧ Below w.heap.size w w' := by
  go_enter Tryd.func42, Tryd.ntmps42
  go_wp2_with fail
  go_returns
  exact ⟨rfl, (Below.refl _ w).alloc (Nat.le_refl _) _⟩
theorem turns_get {j : Nat} (h : j < 4) : (#[.int .i64 7, .int .i64 9, .int .i64 13, .int .i64 18] : Array Value)[j]? = some (.int .i64 (turnAt j)) := by
  match j, h with
  | 0, _ | 1, _ | 2, _ | 3, _ => rfl
theorem mx_rel2 {w W : World} {G : Nat → UInt32} {j g : Nat} {t : TypeId} {cs : Array Value} (h : j < 4) (hm : Mx w (mixIns G (j + 1)) W) (hb : Blk W g t cs) : ∃ jj : Nat, jj ≤ 4 ∧ Value.int .i64 ((j : Int) + 1) = .int .i64 jj ∧ Mx w (mixIns G jj) W ∧ Blk W g t cs := ⟨j + 1, h, rfl, hm, hb⟩

set_option maxHeartbeats 2000000 in
set_option maxRecDepth 100000 in
theorem ref_Mix (f : Nat → UInt32) (w : World) :
    Calls Tryd.prog 40 #[.agg (stv f)] w fun e w' => e = .returned (.agg (stv (mix f))) ∧ Below w.heap.size w w' := by
  go_enter Tryd.func40, Tryd.ntmps40
  go_wp2_with fail
  refine (ref_turns _).mono ?_
  rintro e w1 ⟨rfl, hb1⟩
  have hm0 := (Mx.new w f).below hb1
  go_wp2_with fail
  have ht0 := Blk.new w1 68 #[.int .i64 7, .int .i64 9, .int .i64 13, .int .i64 18]
  replace hm0 := hm0.alloc (.cells #[.int .i64 7, .int .i64 9, .int .i64 13, .int .i64 18] 68)
  have hg3 : w.heap.size + 1 < w1.heap.size := by have := hb1.size; simp at this; omega
  clear hb1
  obtain ⟨g3, hg⟩ : ∃ g3, w1.heap.size = g3 := ⟨_, rfl⟩
  rw [hg] at ht0 hg3
  simp only [hg]
  clear hg
  generalize w1.alloc _ = w2 at ht0 hm0 ⊢
  go_loopw [4] (fun r wr => ∃ k : Nat, k ≤ 8 ∧ r = .int .i64 k ∧ Mx w (mixN f k) wr ∧ Blk wr g3 68 #[.int .i64 7, .int .i64 9, .int .i64 13, .int .i64 18]) (fun r _ => 8 - (intOf r).toNat)
  case atStart => exact ⟨0, by omega, rfl, hm0, ht0⟩
  case round =>
    clear ht0 hm0
    obtain ⟨k, hk, rfl, hm, ht⟩ := hrel
    by_cases hlt : k < 8
    · obtain ⟨F, hF⟩ : ∃ F, mixN f k = F := ⟨_, rfl⟩
      rw [hF] at hm
      have hs0 := hm.st.cell 0 (by decide)
      have hf0 := hm.st.frozen 0
      have hkI : (k : Int) < 8 := by omega
      go_wp2_with fail
      rw [stepW (F 0) k hlt]
      have hm1 := hm.set 0 (by decide) (F 0 + 2654435769 * (UInt32.ofNat k + 1))
      have ht1 := ht.far (p := ⟨w.heap.size, 0, none⟩) (by simp; omega) (.int .u32 (F 0 + 2654435769 * (UInt32.ofNat k + 1)).toNat)
      obtain ⟨G, hG⟩ : ∃ G, sup F 0 (F 0 + 2654435769 * (UInt32.ofNat k + 1)) = G := ⟨_, rfl⟩
      rw [hG] at hm1
      have HF := Lib.hid hF
      have HG := Lib.hid hG
      clear hs0 hf0 hm ht hF hG
      generalize wr.setCell ⟨w.heap.size, 0, none⟩ (.int .u32 (F 0 + 2654435769 * (UInt32.ofNat k + 1)).toNat) = w1 at hm1 ht1 ⊢
      generalize 2654435769 * ((k : Int) + 1) % 4294967296 = z1
      generalize (((F 0).toNat : Int) + z1) % 4294967296 = z2
      go_loopw [5] (fun i wr => ∃ j : Nat, j ≤ 4 ∧ i = .int .i64 j ∧ Mx w (mixIns G j) wr ∧ Blk wr g3 68 #[.int .i64 7, .int .i64 9, .int .i64 13, .int .i64 18]) (fun i _ => 4 - (intOf i).toNat)
      case atStart => exact ⟨0, by omega, rfl, hm1, ht1⟩
      case round =>
        clear hm1 ht1
        obtain ⟨j, hj, rfl, hm, ht⟩ := hrel
        by_cases hlt4 : j < 4
        · obtain ⟨H, hH⟩ : ∃ H, mixIns G j = H := ⟨_, rfl⟩
          rw [hH] at hm
          have HH := Lib.hid hH
          clear hH
          have hc := hm.st.cell j (by omega)
          have hd := hm.st.cell (j + 4) (by omega)
          have hfc := hm.st.frozen j
          have hjI : (j : Int) < 4 := by omega
          have hj0 : (0 : Int) ≤ j := by omega
          go_wp2_with fail
          go_region
          rw [← w_add]
          obtain ⟨a, ha⟩ : ∃ a, H j + H (j + 4) = a := ⟨_, rfl⟩
          rw [ha]
          have hm2 := hm.set j (by omega) a
          have ht2 := ht.far (p := ⟨w.heap.size, j, none⟩) (by simp; omega) (.int .u32 a.toNat)
          have HA := Lib.hid ha
          clear hc hd hfc hm ht ha
          generalize wr.setCell ⟨w.heap.size, j, none⟩ (.int .u32 a.toNat) = w2 at hm2 ht2 ⊢
          have hc : w2.cell? ⟨w.heap.size, j, none⟩ = some (.int .u32 a.toNat) := by
            have h := hm2.st.cell j (by omega); unfold sup at h; rw [if_pos rfl] at h; exact h
          have hd : w2.cell? ⟨w.heap.size, j + 4, none⟩ = some (.int .u32 (H (j + 4)).toNat) := by
            have h := hm2.st.cell (j + 4) (by omega); unfold sup at h; rw [if_neg (by omega)] at h; exact h
          have hp : w2.cell? ⟨g3, j, none⟩ = some (.int .i64 (turnAt j)) := (ht2.cell j).trans (turns_get hlt4)
          have hfd := hm2.st.frozen (j + 4)
          have hw4 : IntKind.i64.wrap ((j : Int) + 4) = (j : Int) + 4 := IntWalk.i64_in _ (by omega)
          have hi4 : (0 : Int) ≤ (j : Int) + 4 := by omega
          have hj4 : (j : Int) + 4 < 8 := by omega
          have ht4 : ((j : Int) + 4).toNat = j + 4 := by omega
          have hj8 : (j : Int) < 8 := by omega
          go_wp2_with fail
          go_region_law ((first
            | (refine step_call rfl 43 #[.int .u32 (bits .xor .u32 ((H (j + 4)).toNat : Int) (a.toNat : Int)), .int .i64 (turnAt j)] _ (by as_aux_lemma => kernel_rfl) (by rw [w_xor]; exact ref_Turn _ _ _) ?_; rintro e w3 ⟨rfl, rfl⟩; refine ⟨_, rfl, ?_⟩)))
          all_goals
            go_wp2_with fail
            go_roundw
            case rel =>
              have h := (hm2.set (j + 4) (by omega) (turnW (H (j + 4) ^^^ a) (turnAt j))).drew.drew
              rw [← HA.out, mixIns_step HH.out, HA.out] at h
              have h2 := (ht2.far (p := ⟨w.heap.size, j + 4, none⟩) (by simp; omega) (.int .u32 (turnW (H (j + 4) ^^^ a) (turnAt j)).toNat)).drew.drew
              first | exact mx_rel2 hlt4 h h2 | ((repeat apply Exists.intro); exact ⟨mx_rel2 hlt4 h h2, rfl⟩)
            case measure => simp [intOf]; omega
        · obtain rfl : j = 4 := by omega
          clear hlt4 hj
          obtain ⟨H, hH⟩ : ∃ H, mixIns G 4 = H := ⟨_, rfl⟩
          rw [hH] at hm
          have HH := Lib.hid hH
          clear hH
          go_wp2_with fail
          have hold := Blk.new wr 56 zero8
          have hm3 := hm.alloc (.cells zero8 56)
          have ht3 := ht.alloc (.cells zero8 56)
          obtain ⟨g, hg⟩ : ∃ g, wr.heap.size = g := ⟨_, rfl⟩
          have hgl : w.heap.size + 1 < g := by rw [← hg]; exact hm.z.lt
          have hg3l : g3 < g := by rw [← hg]; exact ht.lt
          rw [hg] at hold
          simp only [hg]
          clear hm ht hg
          generalize wr.alloc _ = w3 at hold hm3 ht3 ⊢
          replace hold : St w3 g (fun _ => 0) := hold
          go_loopw [7] (fun i wr => ∃ j : Nat, j ≤ 8 ∧ i = .int .i64 j ∧ Mx w H wr ∧ St wr g (rotTo (fun _ => 0) H j) ∧ Blk wr g3 68 #[.int .i64 7, .int .i64 9, .int .i64 13, .int .i64 18]) (fun i _ => 8 - (intOf i).toNat)
          case atStart => exact ⟨0, by omega, rfl, hm3, by rw [rotTo_zero]; exact hold, ht3⟩
          case round =>
            clear hm3 hold ht3
            obtain ⟨j, hj, rfl, hm, hold, ht⟩ := hrel
            by_cases hlt8 : j < 8
            · have hc := hm.st.cell ((j + 3) % 8) (by omega)
              have hf := hold.frozen j
              have hj8 : (j : Int) < 8 := by omega
              have hj0 : (0 : Int) ≤ j := by omega
              have hm3 : ((j : Int) + 3).tmod 8 = (((j + 3) % 8 : Nat) : Int) := by rw [Int.tmod_eq_emod_of_nonneg (by omega)]; omega
              have hl8 : (((j + 3) % 8 : Nat) : Int) < 8 := by omega
              have hl0 : (0 : Int) ≤ (((j + 3) % 8 : Nat) : Int) := by omega
              obtain ⟨q, hq⟩ : ∃ q, (j + 3) % 8 = q := ⟨_, rfl⟩
              rw [hq] at hc hm3 hl8 hl0
              have HQ := Lib.hid hq
              clear hq
              have hcj := hold.cell j hlt8
              go_wp2_with fail
              go_roundw
              case rel =>
                have h := hold.set j hlt8 (H ((j + 3) % 8))
                rw [rotTo_step, HQ.out] at h
                exact ⟨j + 1, hlt8, rfl, hm.far (p := ⟨g, j, none⟩) (by simp; omega) _, h, ht.far (p := ⟨g, j, none⟩) (by simp; omega) _⟩
              case measure => simp [intOf]; omega
            · obtain rfl : j = 8 := by omega
              have hrot : St wr g (rot3 H) := by unfold St at hold ⊢; rw [rot_end] at hold; exact hold
              clear hold
              obtain ⟨R, hR⟩ : ∃ R, rot3 H = R := ⟨_, rfl⟩
              rw [hR] at hrot
              have HRR := Lib.hid hR
              clear hR
              have c0 := hrot.cell 0 (by decide)
              have z0 := hm.st.cell 0 (by decide)
              have y0 := hm.st.frozen 0
              have c1 := hrot.cell 1 (by decide)
              have z1 := hm.st.cell 1 (by decide)
              have y1 := hm.st.frozen 1
              have c2 := hrot.cell 2 (by decide)
              have z2 := hm.st.cell 2 (by decide)
              have y2 := hm.st.frozen 2
              have c3 := hrot.cell 3 (by decide)
              have z3 := hm.st.cell 3 (by decide)
              have y3 := hm.st.frozen 3
              have c4 := hrot.cell 4 (by decide)
              have z4 := hm.st.cell 4 (by decide)
              have y4 := hm.st.frozen 4
              have c5 := hrot.cell 5 (by decide)
              have z5 := hm.st.cell 5 (by decide)
              have y5 := hm.st.frozen 5
              have c6 := hrot.cell 6 (by decide)
              have z6 := hm.st.cell 6 (by decide)
              have y6 := hm.st.frozen 6
              have c7 := hrot.cell 7 (by decide)
              have z7 := hm.st.cell 7 (by decide)
              have y7 := hm.st.frozen 7
              go_wp2_with fail
              go_roundw
              case rel =>
                refine ⟨k + 1, hlt, rfl, ?_, ((((((((ht).far (p := ⟨w.heap.size, 0, none⟩) (by simp; omega) (.int .u32 (R 0).toNat)).far (p := ⟨w.heap.size, 1, none⟩) (by simp; omega) (.int .u32 (R 1).toNat)).far (p := ⟨w.heap.size, 2, none⟩) (by simp; omega) (.int .u32 (R 2).toNat)).far (p := ⟨w.heap.size, 3, none⟩) (by simp; omega) (.int .u32 (R 3).toNat)).far (p := ⟨w.heap.size, 4, none⟩) (by simp; omega) (.int .u32 (R 4).toNat)).far (p := ⟨w.heap.size, 5, none⟩) (by simp; omega) (.int .u32 (R 5).toNat)).far (p := ⟨w.heap.size, 6, none⟩) (by simp; omega) (.int .u32 (R 6).toNat)).far (p := ⟨w.heap.size, 7, none⟩) (by simp; omega) (.int .u32 (R 7).toNat)⟩
                show Mx w (mixR (mixN f k) k) _
                rw [HF.out]
                unfold mixR
                rw [HG.out, HH.out, HRR.out]
                exact hm.fill R
              case measure => simp [intOf]; omega
    · obtain rfl : k = 8 := by omega
      have c0 := hm.st.cell 0 (by decide)
      have z0 := hm.z.cell 0
      have y0 := hm.z.frozen 0
      have c1 := hm.st.cell 1 (by decide)
      have z1 := hm.z.cell 1
      have y1 := hm.z.frozen 1
      have c2 := hm.st.cell 2 (by decide)
      have z2 := hm.z.cell 2
      have y2 := hm.z.frozen 2
      have c3 := hm.st.cell 3 (by decide)
      have z3 := hm.z.cell 3
      have y3 := hm.z.frozen 3
      have c4 := hm.st.cell 4 (by decide)
      have z4 := hm.z.cell 4
      have y4 := hm.z.frozen 4
      have c5 := hm.st.cell 5 (by decide)
      have z5 := hm.z.cell 5
      have y5 := hm.z.frozen 5
      have c6 := hm.st.cell 6 (by decide)
      have z6 := hm.z.cell 6
      have y6 := hm.z.frozen 6
      have c7 := hm.st.cell 7 (by decide)
      have z7 := hm.z.cell 7
      have y7 := hm.z.frozen 7
      go_wp2_with fail
      obtain ⟨H, hH⟩ : ∃ H, mixN f 8 = H := ⟨_, rfl⟩
      rw [hH] at hm
      simp only [hH]
      obtain ⟨W8, hW8, hz8, hb8⟩ := hm.out H
      rw [← hW8]
      clear c0 c1 c2 c3 c4 c5 c6 c7 z0 z1 z2 z3 z4 z5 z6 z7 y0 y1 y2 y3 y4 y5 y6 y7 hm hW8
      have r0 := (hz8.cell 0).trans (stv_get H 0 (by decide))
      have r1 := (hz8.cell 1).trans (stv_get H 1 (by decide))
      have r2 := (hz8.cell 2).trans (stv_get H 2 (by decide))
      have r3 := (hz8.cell 3).trans (stv_get H 3 (by decide))
      have r4 := (hz8.cell 4).trans (stv_get H 4 (by decide))
      have r5 := (hz8.cell 5).trans (stv_get H 5 (by decide))
      have r6 := (hz8.cell 6).trans (stv_get H 6 (by decide))
      have r7 := (hz8.cell 7).trans (stv_get H 7 (by decide))
      have hmix : mix f = H := hH
      rw [hmix]
      refine bodyPost_ret (by simp [results, Tryd.results40, go_sem, r0, r1, r2, r3, r4, r5, r6, r7]; try rfl) rfl ?_
      exact ⟨rfl, hb8⟩
end Go.Proofs.YtdkkomcokefkhaaDoor
