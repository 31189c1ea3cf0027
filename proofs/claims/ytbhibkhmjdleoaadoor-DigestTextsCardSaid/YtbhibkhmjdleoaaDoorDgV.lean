/- Layer 3: the document's Unmix, walked. -/
import Derived.Test.YtbhibkhmjdleoaaDoorDgR
import Derived.Test.YtbhibkhmjdleoaaDoorDgU
namespace Go.Proofs.YtbhibkhmjdleoaaDoor
open Go.RowKit

theorem un_rel2 {w W : World} {G : Nat → UInt32} {m j g : Nat} {t : TypeId} {cs : Array Value} (h : m < 4) (hj : (3 : Int) - m = j) (hm : Mx w (unIns G (m + 1)) W) (hb : Blk W g t cs) : ∃ mm : Nat, mm ≤ 4 ∧ Value.int .i64 ((j : Int) - 1) = .int .i64 (3 - (mm : Int)) ∧ Mx w (unIns G mm) W ∧ Blk W g t cs :=
  ⟨m + 1, h, by congr 1; omega, hm, hb⟩

set_option maxHeartbeats 4000000 in
set_option maxRecDepth 100000 in
theorem ref_Unmix (f : Nat → UInt32) (w : World) :
    Calls Tryd.prog 15 #[.agg (stv f)] w fun e w' => e = .returned (.agg (stv (unmix f))) ∧ Below w.heap.size w w' := by
  go_enter Tryd.func15, Tryd.ntmps15
  go_wp2_with fail
  refine (ref_turns _).mono ?_
  rintro e w1 ⟨rfl, hb1⟩
  have hm0 := (Mx.new w f).below hb1
  go_wp2_with fail
  have ht0 := Blk.new w1 43 #[.int .i64 7, .int .i64 9, .int .i64 13, .int .i64 18]
  replace hm0 := hm0.alloc (.cells #[.int .i64 7, .int .i64 9, .int .i64 13, .int .i64 18] 43)
  have hg3 : w.heap.size + 1 < w1.heap.size := by have := hb1.size; simp at this; omega
  clear hb1
  obtain ⟨g3, hg⟩ : ∃ g3, w1.heap.size = g3 := ⟨_, rfl⟩
  rw [hg] at ht0 hg3
  simp only [hg]
  clear hg
  generalize w1.alloc _ = w2 at ht0 hm0 ⊢
  go_loopw [4] (fun r wr => ∃ n : Nat, n ≤ 8 ∧ r = .int .i64 (7 - (n : Int)) ∧ Mx w (unN f n) wr ∧ Blk wr g3 43 #[.int .i64 7, .int .i64 9, .int .i64 13, .int .i64 18]) (fun r _ => (intOf r + 1).toNat)
  case atStart => exact ⟨0, by omega, rfl, hm0, ht0⟩
  case round =>
    clear ht0 hm0
    obtain ⟨n, hn, rfl, hm, ht⟩ := hrel
    by_cases hlt : n < 8
    · obtain ⟨F, hF⟩ : ∃ F, unN f n = F := ⟨_, rfl⟩
      rw [hF] at hm
      obtain ⟨k, hk⟩ : ∃ k : Nat, (7 : Int) - n = (k : Int) := ⟨7 - n, by omega⟩
      have hk8 : k < 8 := by omega
      have hkn : k = 7 - n := by omega
      have HK := Lib.hid hkn
      have HF := Lib.hid hF
      have HKI := Lib.hid hk
      simp only [hk]
      clear hk hkn hF
      go_wp2_with fail
      have hold := Blk.new wr 23 zero8
      have hm3 := hm.alloc (.cells zero8 23)
      have ht3 := ht.alloc (.cells zero8 23)
      obtain ⟨g, hg⟩ : ∃ g, wr.heap.size = g := ⟨_, rfl⟩
      have hgl : w.heap.size + 1 < g := by rw [← hg]; exact hm.z.lt
      have hg3l : g3 < g := by rw [← hg]; exact ht.lt
      rw [hg] at hold
      simp only [hg]
      clear hm ht hg
      generalize wr.alloc _ = w3 at hold hm3 ht3 ⊢
      replace hold : St w3 g (fun _ => 0) := hold
      go_loopw [6] (fun i wr => ∃ j : Nat, j ≤ 8 ∧ i = .int .i64 j ∧ Mx w F wr ∧ St wr g (backTo (fun _ => 0) F j) ∧ Blk wr g3 43 #[.int .i64 7, .int .i64 9, .int .i64 13, .int .i64 18]) (fun i _ => 8 - (intOf i).toNat)
      case atStart => exact ⟨0, by omega, rfl, hm3, by rw [backTo_zero]; exact hold, ht3⟩
      case round =>
        clear hm3 hold ht3
        obtain ⟨j, hj, rfl, hm, hold, ht⟩ := hrel
        by_cases hlt8 : j < 8
        · have hc := hm.st.cell j hlt8
          have hf := hold.frozen ((j + 3) % 8)
          have hcj := hold.cell ((j + 3) % 8) (by omega)
          have hj8 : (j : Int) < 8 := by omega
          have hj0 : (0 : Int) ≤ j := by omega
          have hm3 : ((j : Int) + 3).tmod 8 = (((j + 3) % 8 : Nat) : Int) := by rw [Int.tmod_eq_emod_of_nonneg (by omega)]; omega
          have hl8 : (((j + 3) % 8 : Nat) : Int) < 8 := by omega
          have hl0 : (0 : Int) ≤ (((j + 3) % 8 : Nat) : Int) := by omega
          obtain ⟨q, hq⟩ : ∃ q, (j + 3) % 8 = q := ⟨_, rfl⟩
          have hq8 : q < 8 := by omega
          rw [hq] at hf hcj hm3 hl8 hl0
          have HQ := Lib.hid hq
          clear hq
          go_wp2_with fail
          go_roundw
          case rel =>
            have h := hold.set q hq8 (F j)
            rw [← HQ.out, backTo_step _ _ _ hlt8, HQ.out] at h
            exact ⟨j + 1, hlt8, rfl, hm.far (p := ⟨g, q, none⟩) (by simp; omega) _, h, ht.far (p := ⟨g, q, none⟩) (by simp; omega) _⟩
          case measure => simp [intOf]; omega
        · obtain rfl : j = 8 := by omega
          have hrot : St wr g (back3 F) := by unfold St at hold ⊢; rw [back_end] at hold; exact hold
          obtain ⟨G, hG⟩ : ∃ G, back3 F = G := ⟨_, rfl⟩
          rw [hG] at hrot
          have HG := Lib.hid hG
          clear hold hG hlt8 hj
          have c0 := hrot.cell 0 (by decide)
          have z0 := hm.st.cell 0 (by decide)
          have y0 := hm.st.frozen 0
          have c1 := hrot.cell 1 (by decide)
          have z1 := hm.st.cell 1 (by decide)
          have y1 := hm.st.frozen 1
          have c2 := hrot.cell 2 (by decide)
          have z2 := hm.st.cell 2 (by decide)
          have y2 := hm.st.frozen 2
          have c3 := hrot.cell 3 (by decide)
          have z3 := hm.st.cell 3 (by decide)
          have y3 := hm.st.frozen 3
          have c4 := hrot.cell 4 (by decide)
          have z4 := hm.st.cell 4 (by decide)
          have y4 := hm.st.frozen 4
          have c5 := hrot.cell 5 (by decide)
          have z5 := hm.st.cell 5 (by decide)
          have y5 := hm.st.frozen 5
          have c6 := hrot.cell 6 (by decide)
          have z6 := hm.st.cell 6 (by decide)
          have y6 := hm.st.frozen 6
          have c7 := hrot.cell 7 (by decide)
          have z7 := hm.st.cell 7 (by decide)
          have y7 := hm.st.frozen 7
          go_wp2_with fail
          replace hm := hm.fill G
          replace ht := ((((((((ht).far (p := ⟨w.heap.size, 0, none⟩) (by simp; omega) (.int .u32 (G 0).toNat)).far (p := ⟨w.heap.size, 1, none⟩) (by simp; omega) (.int .u32 (G 1).toNat)).far (p := ⟨w.heap.size, 2, none⟩) (by simp; omega) (.int .u32 (G 2).toNat)).far (p := ⟨w.heap.size, 3, none⟩) (by simp; omega) (.int .u32 (G 3).toNat)).far (p := ⟨w.heap.size, 4, none⟩) (by simp; omega) (.int .u32 (G 4).toNat)).far (p := ⟨w.heap.size, 5, none⟩) (by simp; omega) (.int .u32 (G 5).toNat)).far (p := ⟨w.heap.size, 6, none⟩) (by simp; omega) (.int .u32 (G 6).toNat)).far (p := ⟨w.heap.size, 7, none⟩) (by simp; omega) (.int .u32 (G 7).toNat)
          clear c0 c1 c2 c3 c4 c5 c6 c7 z0 z1 z2 z3 z4 z5 z6 z7 y0 y1 y2 y3 y4 y5 y6 y7 hrot
          generalize World.setCell _ ⟨w.heap.size, 7, none⟩ _ = w7 at hm ht ⊢
          generalize ((8 : Nat) : Int) = e8
          go_loopw [7] (fun i wr => ∃ n : Nat, n ≤ 4 ∧ i = .int .i64 (3 - (n : Int)) ∧ Mx w (unIns G n) wr ∧ Blk wr g3 43 #[.int .i64 7, .int .i64 9, .int .i64 13, .int .i64 18]) (fun i _ => (intOf i + 1).toNat)
          case atStart => exact ⟨0, by omega, rfl, hm, ht⟩
          case round =>
            clear hm ht
            obtain ⟨m, hm4, rfl, hm, ht⟩ := hrel
            by_cases hlt4 : m < 4
            · obtain ⟨H, hH⟩ : ∃ H, unIns G m = H := ⟨_, rfl⟩
              rw [hH] at hm
              have HH := Lib.hid hH
              obtain ⟨j, hj⟩ : ∃ j : Nat, (3 : Int) - m = (j : Int) := ⟨3 - m, by omega⟩
              have hj4 : j < 4 := by omega
              have hjm : j = 3 - m := by omega
              have HJ := Lib.hid hjm
              have HJI := Lib.hid hj
              simp only [hj]
              clear hH hj hjm
              have hc := hm.st.cell j (by omega)
              have hd := hm.st.cell (j + 4) (by omega)
              have hfd := hm.st.frozen (j + 4)
              have hp : wr.cell? ⟨g3, j, none⟩ = some (.int .i64 (turnAt j)) := (ht.cell j).trans (turns_get hj4)
              have hneg := turnAt_neg j
              have hjI : (j : Int) < 4 := by omega
              have hj0 : (0 : Int) ≤ j := by omega
              have hw4 : IntKind.i64.wrap ((j : Int) + 4) = (j : Int) + 4 := IntWalk.i64_in _ (by omega)
              have hi4 : (0 : Int) ≤ (j : Int) + 4 := by omega
              have hi48 : (j : Int) + 4 < 8 := by omega
              have ht4 : ((j : Int) + 4).toNat = j + 4 := by omega
              have hj8 : (j : Int) < 8 := by omega
              go_wp2_with fail
              go_region_law ((first
                | (refine step_call rfl 27 #[.int .u32 (H (j + 4)).toNat, .int .i64 (-turnAt j)] _ (by as_aux_lemma => kernel_rfl) (ref_Turn _ _ _) ?_; rintro e w3 ⟨rfl, rfl⟩; refine ⟨_, rfl, ?_⟩)))
              all_goals
                rw [w_xor]
                obtain ⟨b, hb⟩ : ∃ b, turnW (H (j + 4)) (-turnAt j) ^^^ H j = b := ⟨_, rfl⟩
                rw [hb]
                have hm2 := (hm.set (j + 4) (by omega) b).drew
                have ht2 := (ht.far (p := ⟨w.heap.size, j + 4, none⟩) (by simp; omega) (.int .u32 b.toNat)).drew
                have HB := Lib.hid hb
                clear hc hd hfd hp hneg hm ht hb hw4 hi4 hi48 ht4
                generalize (wr.setCell ⟨w.heap.size, j + 4, none⟩ (.int .u32 b.toNat)).drew = w2 at hm2 ht2 ⊢
                have hc : w2.cell? ⟨w.heap.size, j, none⟩ = some (.int .u32 (H j).toNat) := by
                  have h := hm2.st.cell j (by omega); unfold sup at h; rw [if_neg (by omega)] at h; exact h
                have hd : w2.cell? ⟨w.heap.size, j + 4, none⟩ = some (.int .u32 b.toNat) := by
                  have h := hm2.st.cell (j + 4) (by omega); unfold sup at h; rw [if_pos rfl] at h; exact h
                have hfd := hm2.st.frozen j
                go_wp2_with fail
                go_region
                rw [← w_sub]
                have hm3 := hm2.set j (by omega) (H j - b)
                have ht3 := ht2.far (p := ⟨w.heap.size, j, none⟩) (by simp; omega) (.int .u32 (H j - b).toNat)
                have hun : sup (sup H (j + 4) b) j (H j - b) = unIns G (m + 1) := by rw [← HB.out]; exact unIns_step HJ.out HH.out
                rw [hun] at hm3
                clear hc hd hfd hm2
                go_wp2_with fail
                go_roundw
                case rel =>
                  have h := un_rel2 hlt4 HJI.out hm3.drew ht3.drew
                  first | exact h | ((repeat apply Exists.intro); exact ⟨h, rfl⟩)
                case measure => simp [intOf]
            · obtain rfl : m = 4 := by omega
              obtain ⟨H, hH⟩ : ∃ H, unIns G 4 = H := ⟨_, rfl⟩
              rw [hH] at hm
              have HH := Lib.hid hH
              clear hH
              have hs0 := hm.st.cell 0 (by decide)
              have hf0 := hm.st.frozen 0
              go_wp2_with fail
              rw [stepU (H 0) k hk8]
              have hm3 := hm.set 0 (by decide) (H 0 - 2654435769 * (UInt32.ofNat k + 1))
              have ht3 := ht.far (p := ⟨w.heap.size, 0, none⟩) (by simp; omega) (.int .u32 (H 0 - 2654435769 * (UInt32.ofNat k + 1)).toNat)
              have hun : sup H 0 (H 0 - 2654435769 * (UInt32.ofNat k + 1)) = unN f (n + 1) := by
                show _ = unR (unN f n) (7 - n)
                unfold unR
                rw [HF.out, HG.out, HH.out, HK.out]
              rw [hun] at hm3
              have hkI : (k : Int) - 1 = 7 - ((n + 1 : Nat) : Int) := by have := HKI.out; omega
              go_roundw
              case rel => exact ⟨n + 1, hlt, by rw [← hkI], hm3, ht3⟩
              case measure => simp [intOf]
    · obtain rfl : n = 8 := by omega
      have c0 := hm.st.cell 0 (by decide)
      have z0 := hm.z.cell 0
      have y0 := hm.z.frozen 0
      have c1 := hm.st.cell 1 (by decide)
      have z1 := hm.z.cell 1
      have y1 := hm.z.frozen 1
      have c2 := hm.st.cell 2 (by decide)
      have z2 := hm.z.cell 2
      have y2 := hm.z.frozen 2
      have c3 := hm.st.cell 3 (by decide)
      have z3 := hm.z.cell 3
      have y3 := hm.z.frozen 3
      have c4 := hm.st.cell 4 (by decide)
      have z4 := hm.z.cell 4
      have y4 := hm.z.frozen 4
      have c5 := hm.st.cell 5 (by decide)
      have z5 := hm.z.cell 5
      have y5 := hm.z.frozen 5
      have c6 := hm.st.cell 6 (by decide)
      have z6 := hm.z.cell 6
      have y6 := hm.z.frozen 6
      have c7 := hm.st.cell 7 (by decide)
      have z7 := hm.z.cell 7
      have y7 := hm.z.frozen 7
      go_wp2_with fail
      obtain ⟨H, hH⟩ : ∃ H, unN f 8 = H := ⟨_, rfl⟩
      rw [hH] at hm
      simp only [hH]
      obtain ⟨W8, hW8, hz8, hb8⟩ := hm.out H
      rw [← hW8]
      clear c0 c1 c2 c3 c4 c5 c6 c7 z0 z1 z2 z3 z4 z5 z6 z7 y0 y1 y2 y3 y4 y5 y6 y7 hm hW8
      have r0 := (hz8.cell 0).trans (stv_get H 0 (by decide))
      have r1 := (hz8.cell 1).trans (stv_get H 1 (by decide))
      have r2 := (hz8.cell 2).trans (stv_get H 2 (by decide))
      have r3 := (hz8.cell 3).trans (stv_get H 3 (by decide))
      have r4 := (hz8.cell 4).trans (stv_get H 4 (by decide))
      have r5 := (hz8.cell 5).trans (stv_get H 5 (by decide))
      have r6 := (hz8.cell 6).trans (stv_get H 6 (by decide))
      have r7 := (hz8.cell 7).trans (stv_get H 7 (by decide))
      have hmix : unmix f = H := hH
      rw [hmix]
      refine bodyPost_ret (by simp [results, Tryd.results15, go_sem, r0, r1, r2, r3, r4, r5, r6, r7]; try rfl) rfl ?_
      exact ⟨rfl, hb8⟩
end Go.Proofs.YtbhibkhmjdleoaaDoor
