/- Layer 3: Mix, walked. -/
import Derived.Test.YtdkkomcokefkhaaDoorDgT
import Derived.Test.YtdkkomcokefkhaaDoorWordB
namespace Go.Proofs.YtdkkomcokefkhaaDoor
open Go.RowKit

theorem stepW (x : UInt32) (k : Nat) (_h : k < 8) : ((x.toNat : Int) + 2654435769 * ((k : Int) + 1)) % 4294967296 = ((x + 2654435769 * (UInt32.ofNat k + 1)).toNat : Int) := by
  rw [UInt32.toNat_add, UInt32.toNat_mul, UInt32.toNat_add, UInt32.toNat_ofNat']
  have := x.toNat_lt
  rw [show (2654435769 : UInt32).toNat = 2654435769 from rfl, show (1 : UInt32).toNat = 1 from rfl]
  omega

theorem mixIns_step {G H : Nat → UInt32} {j : Nat} (h : mixIns G j = H) : sup (sup H j (H j + H (j + 4))) (j + 4) (turnW (H (j + 4) ^^^ (H j + H (j + 4))) (turnAt j)) = mixIns G (j + 1) := by
  show _ = mixIn (mixIns G j) j
  rw [h]; rfl
theorem mx_rel {w W : World} {G : Nat → UInt32} {j : Nat} (h : j < 4) (hm : Mx w (mixIns G (j + 1)) W) : ∃ jj : Nat, jj ≤ 4 ∧ Value.int .i64 ((j : Int) + 1) = .int .i64 jj ∧ Mx w (mixIns G jj) W := ⟨j + 1, h, rfl, hm⟩
set_option maxHeartbeats 2000000 in
set_option maxRecDepth 100000 in
theorem digest_Mix (f : Nat → UInt32) (w : World) (hP : Places w) :
    Calls Tryd.prog 39 #[.agg (stv f)] w fun e w' => e = .returned (.agg (stv (mix f))) ∧ Below w.heap.size w w' := by
  go_enter Tryd.func39, Tryd.ntmps39
  go_wp2_with fail
  go_loopw [3] (fun r wr => ∃ k : Nat, k ≤ 8 ∧ r = .int .u32 k ∧ Mx w (mixN f k) wr) (fun r _ => 8 - (intOf r).toNat)
  case atStart => exact ⟨0, by omega, rfl, Mx.new w f⟩
  case round =>
    obtain ⟨k, hk, rfl, hm⟩ := hrel
    by_cases hlt : k < 8
    · obtain ⟨F, hF⟩ : ∃ F, mixN f k = F := ⟨_, rfl⟩
      rw [hF] at hm
      have hs0 := hm.st.cell 0 (by decide)
      have hf0 := hm.st.frozen 0
      have hkI : (k : Int) < 8 := by omega
      go_wp2_with fail
      rw [stepW (F 0) k hlt]
      have hm1 := hm.set 0 (by decide) (F 0 + 2654435769 * (UInt32.ofNat k + 1))
      obtain ⟨G, hG⟩ : ∃ G, sup F 0 (F 0 + 2654435769 * (UInt32.ofNat k + 1)) = G := ⟨_, rfl⟩
      rw [hG] at hm1
      have HF := Lib.hid hF
      have HG := Lib.hid hG
      clear hs0 hf0 hm hF hG
      generalize wr.setCell ⟨w.heap.size, 0, none⟩ (.int .u32 (F 0 + 2654435769 * (UInt32.ofNat k + 1)).toNat) = w1 at hm1 ⊢
      generalize 2654435769 * ((k : Int) + 1) % 4294967296 = z1
      generalize (((F 0).toNat : Int) + z1) % 4294967296 = z2
      go_loopw [4] (fun i wr => ∃ j : Nat, j ≤ 4 ∧ i = .int .i64 j ∧ Mx w (mixIns G j) wr) (fun i _ => 4 - (intOf i).toNat)
      case atStart => exact ⟨0, by omega, rfl, hm1⟩
      case round =>
        clear hm1
        obtain ⟨j, hj, rfl, hm⟩ := hrel
        by_cases hlt4 : j < 4
        · obtain ⟨H, hH⟩ : ∃ H, mixIns G j = H := ⟨_, rfl⟩
          rw [hH] at hm
          have HH := Lib.hid hH
          clear hH
          have hc := hm.st.cell j (by omega)
          have hd := hm.st.cell (j + 4) (by omega)
          have hfc := hm.st.frozen j
          have hjI : (j : Int) < 4 := by omega
          have hj0 : (0 : Int) ≤ j := by omega
          go_wp2_with fail
          go_region
          rw [← w_add]
          obtain ⟨a, ha⟩ : ∃ a, H j + H (j + 4) = a := ⟨_, rfl⟩
          rw [ha]
          have hm2 := hm.set j (by omega) a
          have HA := Lib.hid ha
          clear hc hd hfc hm ha
          generalize wr.setCell ⟨w.heap.size, j, none⟩ (.int .u32 a.toNat) = w2 at hm2 ⊢
          have hc : w2.cell? ⟨w.heap.size, j, none⟩ = some (.int .u32 a.toNat) := by
            have h := hm2.st.cell j (by omega); unfold sup at h; rw [if_pos rfl] at h; exact h
          have hd : w2.cell? ⟨w.heap.size, j + 4, none⟩ = some (.int .u32 (H (j + 4)).toNat) := by
            have h := hm2.st.cell (j + 4) (by omega); unfold sup at h; rw [if_neg (by omega)] at h; exact h
          have hp := (hP.below hm2.bel hP.1).2 j hlt4
          have hfd := hm2.st.frozen (j + 4)
          have hw4 : IntKind.i64.wrap ((j : Int) + 4) = (j : Int) + 4 := IntWalk.i64_in _ (by omega)
          have hi4 : (0 : Int) ≤ (j : Int) + 4 := by omega
          have hj4 : (j : Int) + 4 < 8 := by omega
          have ht4 : ((j : Int) + 4).toNat = j + 4 := by omega
          have hj8 : (j : Int) < 8 := by omega
          go_wp2_with fail
          go_region_law ((first
            | (refine step_call rfl 41 #[.int .u32 (bits .xor .u32 ((H (j + 4)).toNat : Int) (a.toNat : Int)), .int .i64 (turnAt j)] _ (by as_aux_lemma => kernel_rfl) (by rw [w_xor]; exact word_Turn _ _ _) ?_; rintro e w3 ⟨rfl, rfl⟩; refine ⟨_, rfl, ?_⟩)))
          all_goals
            go_wp2_with fail
            go_roundw
            case rel =>
              have h := (hm2.set (j + 4) (by omega) (turnW (H (j + 4) ^^^ a) (turnAt j))).drew.drew
              rw [← HA.out, mixIns_step HH.out, HA.out] at h
              first | exact mx_rel hlt4 h | ((repeat apply Exists.intro); exact ⟨mx_rel hlt4 h, rfl⟩)
            case measure => simp [intOf]; omega
        · obtain rfl : j = 4 := by omega
          clear hlt4 hj
          obtain ⟨H, hH⟩ : ∃ H, mixIns G 4 = H := ⟨_, rfl⟩
          rw [hH] at hm
          have HH := Lib.hid hH
          clear hH
          have c0 := hm.st.cell 0 (by decide)
          have c1 := hm.st.cell 1 (by decide)
          have c2 := hm.st.cell 2 (by decide)
          have c3 := hm.st.cell 3 (by decide)
          have c4 := hm.st.cell 4 (by decide)
          have c5 := hm.st.cell 5 (by decide)
          have c6 := hm.st.cell 6 (by decide)
          have c7 := hm.st.cell 7 (by decide)
          go_wp2_with fail
          clear c0 c1 c2 c3 c4 c5 c6 c7
          have hold : Blk (wr.alloc (.cells (stv H) 56)) wr.heap.size 56 (stv H) := Blk.new wr _ _
          have hm3 := hm.alloc (.cells (stv H) 56)
          obtain ⟨g, hg⟩ : ∃ g, wr.heap.size = g := ⟨_, rfl⟩
          have hgl : w.heap.size + 1 < g := by rw [← hg]; exact hm.z.lt
          rw [hg] at hold
          simp only [hg]
          clear hm hg
          unfold stv at hold hm3
          simp only [wv] at hold hm3
          generalize wr.alloc _ = w3 at hold hm3 ⊢
          go_loopw [47] (fun i wr => ∃ j : Nat, j ≤ 8 ∧ i = .int .i64 j ∧ Mx w (rotTo H H j) wr ∧ St wr g H) (fun i _ => 8 - (intOf i).toNat)
          case atStart => exact ⟨0, by omega, rfl, by rw [rotTo_zero]; exact hm3, hold⟩
          case round =>
            clear hm3 hold
            obtain ⟨j, hj, rfl, hm, hold⟩ := hrel
            by_cases hlt8 : j < 8
            · have hc := hold.cell ((j + 3) % 8) (by omega)
              have hf := hm.st.frozen j
              have hj8 : (j : Int) < 8 := by omega
              have hj0 : (0 : Int) ≤ j := by omega
              have hm3 : ((j : Int) + 3).tmod 8 = (((j + 3) % 8 : Nat) : Int) := by rw [Int.tmod_eq_emod_of_nonneg (by omega)]; omega
              have hl8 : (((j + 3) % 8 : Nat) : Int) < 8 := by omega
              have hl0 : (0 : Int) ≤ (((j + 3) % 8 : Nat) : Int) := by omega
              obtain ⟨q, hq⟩ : ∃ q, (j + 3) % 8 = q := ⟨_, rfl⟩
              rw [hq] at hc hm3 hl8 hl0
              have HQ := Lib.hid hq
              clear hq
              have hcj := hm.st.cell j hlt8
              go_wp2_with fail
              go_roundw
              case rel =>
                have h := hm.set j hlt8 (H ((j + 3) % 8))
                rw [rotTo_step, HQ.out] at h
                exact ⟨j + 1, hlt8, rfl, h, hold.far (p := ⟨w.heap.size, j, none⟩) (by simp; omega) _⟩
              case measure => simp [intOf]; omega
            · obtain rfl : j = 8 := by omega
              go_wp2_with fail
              go_roundw
              case rel =>
                refine ⟨k + 1, hlt, rfl, ?_⟩
                show Mx w (mixR (mixN f k) k) wr
                rw [HF.out]
                unfold mixR
                rw [HG.out, HH.out]
                exact hm.rot
              case measure => simp [intOf]; omega
    · obtain rfl : k = 8 := by omega
      have c0 := hm.st.cell 0 (by decide)
      have c1 := hm.st.cell 1 (by decide)
      have c2 := hm.st.cell 2 (by decide)
      have c3 := hm.st.cell 3 (by decide)
      have c4 := hm.st.cell 4 (by decide)
      have c5 := hm.st.cell 5 (by decide)
      have c6 := hm.st.cell 6 (by decide)
      have c7 := hm.st.cell 7 (by decide)
      have z0 := hm.z.cell 0
      have y0 := hm.z.frozen 0
      have z1 := hm.z.cell 1
      have y1 := hm.z.frozen 1
      have z2 := hm.z.cell 2
      have y2 := hm.z.frozen 2
      have z3 := hm.z.cell 3
      have y3 := hm.z.frozen 3
      have z4 := hm.z.cell 4
      have y4 := hm.z.frozen 4
      have z5 := hm.z.cell 5
      have y5 := hm.z.frozen 5
      have z6 := hm.z.cell 6
      have y6 := hm.z.frozen 6
      have z7 := hm.z.cell 7
      have y7 := hm.z.frozen 7
      go_wp2_with fail
      obtain ⟨H, hH⟩ : ∃ H, mixN f 8 = H := ⟨_, rfl⟩
      rw [hH] at hm
      simp only [hH]
      have hz8 := hm.z.fill (wv (H 0)) (wv (H 1)) (wv (H 2)) (wv (H 3)) (wv (H 4)) (wv (H 5)) (wv (H 6)) (wv (H 7))
      have hb8 := (((((((hm.bel.setCell (p := ⟨w.heap.size + 1, 0, none⟩) (Nat.le_succ _) (wv (H 0))).setCell (p := ⟨w.heap.size + 1, 1, none⟩) (Nat.le_succ _) (wv (H 1))).setCell (p := ⟨w.heap.size + 1, 2, none⟩) (Nat.le_succ _) (wv (H 2))).setCell (p := ⟨w.heap.size + 1, 3, none⟩) (Nat.le_succ _) (wv (H 3))).setCell (p := ⟨w.heap.size + 1, 4, none⟩) (Nat.le_succ _) (wv (H 4))).setCell (p := ⟨w.heap.size + 1, 5, none⟩) (Nat.le_succ _) (wv (H 5))).setCell (p := ⟨w.heap.size + 1, 6, none⟩) (Nat.le_succ _) (wv (H 6))).setCell (p := ⟨w.heap.size + 1, 7, none⟩) (Nat.le_succ _) (wv (H 7))
      simp only [wv] at hz8 hb8
      clear c0 c1 c2 c3 c4 c5 c6 c7 z0 z1 z2 z3 z4 z5 z6 z7 y0 y1 y2 y3 y4 y5 y6 y7 hm
      generalize World.setCell _ ⟨w.heap.size + 1, 7, none⟩ _ = W8 at hz8 hb8 ⊢
      have r0 := hz8.cell 0
      have r1 := hz8.cell 1
      have r2 := hz8.cell 2
      have r3 := hz8.cell 3
      have r4 := hz8.cell 4
      have r5 := hz8.cell 5
      have r6 := hz8.cell 6
      have r7 := hz8.cell 7
      have hmix : mix f = H := hH
      rw [hmix]
      refine bodyPost_ret (by simp [results, Tryd.results39, go_sem, r0, r1, r2, r3, r4, r5, r6, r7]; try rfl) rfl ?_
      exact ⟨rfl, hb8⟩
end Go.Proofs.YtdkkomcokefkhaaDoor
