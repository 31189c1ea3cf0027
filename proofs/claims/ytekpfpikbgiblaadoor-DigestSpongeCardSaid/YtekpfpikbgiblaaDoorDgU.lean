/- Layer 3: Unmix, walked. -/
import Derived.Test.YtekpfpikbgiblaaDoorDgM
namespace Go.Proofs.YtekpfpikbgiblaaDoor
open Go.RowKit

theorem stepU (x : UInt32) (k : Nat) (_h : k < 8) : ((x.toNat : Int) - 2654435769 * ((k : Int) + 1)) % 4294967296 = ((x - 2654435769 * (UInt32.ofNat k + 1)).toNat : Int) := by
  rw [w_sub, UInt32.toNat_mul, UInt32.toNat_add, UInt32.toNat_ofNat']
  have := x.toNat_lt
  rw [show (2654435769 : UInt32).toNat = 2654435769 from rfl, show (1 : UInt32).toNat = 1 from rfl]
  omega
theorem unIns_step {G H : Nat → UInt32} {n j : Nat} (hj : j = 3 - n) (h : unIns G n = H) : unIn H j = unIns G (n + 1) := by
  show _ = unIn (unIns G n) (3 - n)
  rw [h, hj]
theorem turnAt_neg (j : Nat) : IntKind.i64.wrap (-(turnAt j)) = -(turnAt j) := by
  unfold turnAt
  split
  · rfl
  split
  · rfl
  split
  · rfl
  · rfl

theorem un_rel {w W : World} {G : Nat → UInt32} {m j : Nat} (h : m < 4) (hj : (3 : Int) - m = j) (hm : Mx w (unIns G (m + 1)) W) : ∃ mm : Nat, mm ≤ 4 ∧ Value.int .i64 ((j : Int) - 1) = .int .i64 (3 - (mm : Int)) ∧ Mx w (unIns G mm) W :=
  ⟨m + 1, h, by congr 1; omega, hm⟩

set_option maxHeartbeats 4000000 in
set_option maxRecDepth 100000 in
theorem digest_Unmix (f : Nat → UInt32) (w : World) (hP : Places w) :
    Calls Tryd.prog 17 #[.agg (stv f)] w fun e w' => e = .returned (.agg (stv (unmix f))) ∧ Below w.heap.size w w' := by
  go_enter Tryd.func17, Tryd.ntmps17
  go_wp2_with fail
  go_loopw [3] (fun r wr => ∃ n : Nat, n ≤ 8 ∧ r = .int .u32 (8 - (n : Int)) ∧ Mx w (unN f n) wr) (fun r _ => (intOf r).toNat)
  case atStart => exact ⟨0, by omega, rfl, Mx.new w f⟩
  case round =>
    obtain ⟨n, hn, rfl, hm⟩ := hrel
    by_cases hlt : n < 8
    · obtain ⟨F, hF⟩ : ∃ F, unN f n = F := ⟨_, rfl⟩
      rw [hF] at hm
      obtain ⟨k, hk⟩ : ∃ k : Nat, (8 : Int) - n = (k : Int) + 1 := ⟨7 - n, by omega⟩
      have hk8 : k < 8 := by omega
      have hkn : k = 7 - n := by omega
      have HK := Lib.hid hkn
      have HF := Lib.hid hF
      have HKI := Lib.hid hk
      simp only [hk]
      clear hk hkn hF
      have c0 := hm.st.cell 0 (by decide)
      have c1 := hm.st.cell 1 (by decide)
      have c2 := hm.st.cell 2 (by decide)
      have c3 := hm.st.cell 3 (by decide)
      have c4 := hm.st.cell 4 (by decide)
      have c5 := hm.st.cell 5 (by decide)
      have c6 := hm.st.cell 6 (by decide)
      have c7 := hm.st.cell 7 (by decide)
      go_wp2_with fail
      clear c0 c1 c2 c3 c4 c5 c6 c7
      have hold : Blk (wr.alloc (.cells (stv F) 30)) wr.heap.size 30 (stv F) := Blk.new wr _ _
      have hm3 := hm.alloc (.cells (stv F) 30)
      obtain ⟨g, hg⟩ : ∃ g, wr.heap.size = g := ⟨_, rfl⟩
      have hgl : w.heap.size + 1 < g := by rw [← hg]; exact hm.z.lt
      rw [hg] at hold
      simp only [hg]
      clear hm hg
      unfold stv at hold hm3
      simp only [wv] at hold hm3
      generalize wr.alloc _ = w3 at hold hm3 ⊢
      replace hold : St w3 g F := hold
      go_loopw [12] (fun i wr => ∃ j : Nat, j ≤ 8 ∧ i = .int .i64 j ∧ Mx w (backTo F F j) wr ∧ St wr g F) (fun i _ => 8 - (intOf i).toNat)
      case atStart => exact ⟨0, by omega, rfl, by rw [backTo_zero]; exact hm3, hold⟩
      case round =>
        clear hm3 hold
        obtain ⟨j, hj, rfl, hm, hold⟩ := hrel
        by_cases hlt8 : j < 8
        · have hc := hold.cell j hlt8
          have hf := hm.st.frozen ((j + 3) % 8)
          have hcj := hm.st.cell ((j + 3) % 8) (by omega)
          have hj8 : (j : Int) < 8 := by omega
          have hj0 : (0 : Int) ≤ j := by omega
          have hm3 : ((j : Int) + 3).tmod 8 = (((j + 3) % 8 : Nat) : Int) := by rw [Int.tmod_eq_emod_of_nonneg (by omega)]; omega
          have hl8 : (((j + 3) % 8 : Nat) : Int) < 8 := by omega
          have hl0 : (0 : Int) ≤ (((j + 3) % 8 : Nat) : Int) := by omega
          obtain ⟨q, hq⟩ : ∃ q, (j + 3) % 8 = q := ⟨_, rfl⟩
          have hq8 : q < 8 := by omega
          rw [hq] at hf hcj hm3 hl8 hl0
          have HQ := Lib.hid hq
          clear hq
          go_wp2_with fail
          go_roundw
          case rel =>
            have h := hm.set q hq8 (F j)
            rw [← HQ.out, backTo_step _ _ _ hlt8, HQ.out] at h
            exact ⟨j + 1, hlt8, rfl, h, hold.far (p := ⟨w.heap.size, q, none⟩) (by simp; omega) _⟩
          case measure => simp [intOf]; omega
        · obtain rfl : j = 8 := by omega
          replace hm := hm.back
          obtain ⟨G, hG⟩ : ∃ G, back3 F = G := ⟨_, rfl⟩
          rw [hG] at hm
          have HG := Lib.hid hG
          clear hold hG hlt8 hj
          go_wp2_with fail
          generalize ((8 : Nat) : Int) = e8
          go_loopw [6] (fun i wr => ∃ n : Nat, n ≤ 4 ∧ i = .int .i64 (3 - (n : Int)) ∧ Mx w (unIns G n) wr) (fun i _ => (intOf i + 1).toNat)
          case atStart => exact ⟨0, by omega, rfl, hm⟩
          case round =>
            clear hm
            obtain ⟨m, hm4, rfl, hm⟩ := hrel
            by_cases hlt4 : m < 4
            · obtain ⟨H, hH⟩ : ∃ H, unIns G m = H := ⟨_, rfl⟩
              rw [hH] at hm
              have HH := Lib.hid hH
              obtain ⟨j, hj⟩ : ∃ j : Nat, (3 : Int) - m = (j : Int) := ⟨3 - m, by omega⟩
              have hj4 : j < 4 := by omega
              have hjm : j = 3 - m := by omega
              have HJ := Lib.hid hjm
              have HJI := Lib.hid hj
              simp only [hj]
              clear hH hj hjm
              have hc := hm.st.cell j (by omega)
              have hd := hm.st.cell (j + 4) (by omega)
              have hfd := hm.st.frozen (j + 4)
              have hp := (hP.below hm.bel hP.1).2 j hj4
              have hneg := turnAt_neg j
              have hjI : (j : Int) < 4 := by omega
              have hj0 : (0 : Int) ≤ j := by omega
              have hw4 : IntKind.i64.wrap ((j : Int) + 4) = (j : Int) + 4 := IntWalk.i64_in _ (by omega)
              have hi4 : (0 : Int) ≤ (j : Int) + 4 := by omega
              have hi48 : (j : Int) + 4 < 8 := by omega
              have ht4 : ((j : Int) + 4).toNat = j + 4 := by omega
              have hj8 : (j : Int) < 8 := by omega
              go_wp2_with fail
              go_region_law ((first
                | (refine step_call rfl 26 #[.int .u32 (H (j + 4)).toNat, .int .i64 (-turnAt j)] _ (by as_aux_lemma => kernel_rfl) (word_Turn _ _ _) ?_; rintro e w3 ⟨rfl, rfl⟩; refine ⟨_, rfl, ?_⟩)))
              all_goals
                rw [w_xor]
                obtain ⟨b, hb⟩ : ∃ b, turnW (H (j + 4)) (-turnAt j) ^^^ H j = b := ⟨_, rfl⟩
                rw [hb]
                have hm2 := (hm.set (j + 4) (by omega) b).drew
                have HB := Lib.hid hb
                clear hc hd hfd hp hneg hm hb hw4 hi4 hi48 ht4
                generalize (wr.setCell ⟨w.heap.size, j + 4, none⟩ (.int .u32 b.toNat)).drew = w2 at hm2 ⊢
                have hc : w2.cell? ⟨w.heap.size, j, none⟩ = some (.int .u32 (H j).toNat) := by
                  have h := hm2.st.cell j (by omega); unfold sup at h; rw [if_neg (by omega)] at h; exact h
                have hd : w2.cell? ⟨w.heap.size, j + 4, none⟩ = some (.int .u32 b.toNat) := by
                  have h := hm2.st.cell (j + 4) (by omega); unfold sup at h; rw [if_pos rfl] at h; exact h
                have hfd := hm2.st.frozen j
                go_wp2_with fail
                go_region
                rw [← w_sub]
                have hm3 := hm2.set j (by omega) (H j - b)
                have hun : sup (sup H (j + 4) b) j (H j - b) = unIns G (m + 1) := by rw [← HB.out]; exact unIns_step HJ.out HH.out
                rw [hun] at hm3
                clear hc hd hfd hm2
                go_wp2_with fail
                go_roundw
                case rel =>
                  have h := un_rel hlt4 HJI.out hm3.drew
                  first | exact h | ((repeat apply Exists.intro); exact ⟨h, rfl⟩)
                case measure => simp [intOf]
            · obtain rfl : m = 4 := by omega
              obtain ⟨H, hH⟩ : ∃ H, unIns G 4 = H := ⟨_, rfl⟩
              rw [hH] at hm
              have HH := Lib.hid hH
              clear hH
              have hs0 := hm.st.cell 0 (by decide)
              have hf0 := hm.st.frozen 0
              go_wp2_with fail
              rw [stepU (H 0) k hk8]
              have hm3 := hm.set 0 (by decide) (H 0 - 2654435769 * (UInt32.ofNat k + 1))
              have hun : sup H 0 (H 0 - 2654435769 * (UInt32.ofNat k + 1)) = unN f (n + 1) := by
                show _ = unR (unN f n) (7 - n)
                unfold unR
                rw [HF.out, HG.out, HH.out, HK.out]
              rw [hun] at hm3
              have hkI : (k : Int) = 8 - ((n + 1 : Nat) : Int) := by have := HKI.out; omega
              go_roundw
              case rel => exact ⟨n + 1, hlt, by rw [← hkI], hm3⟩
              case measure => simp [intOf]
    · obtain rfl : n = 8 := by omega
      have c0 := hm.st.cell 0 (by decide)
      have z0 := hm.z.cell 0
      have y0 := hm.z.frozen 0
      have c1 := hm.st.cell 1 (by decide)
      have z1 := hm.z.cell 1
      have y1 := hm.z.frozen 1
      have c2 := hm.st.cell 2 (by decide)
      have z2 := hm.z.cell 2
      have y2 := hm.z.frozen 2
      have c3 := hm.st.cell 3 (by decide)
      have z3 := hm.z.cell 3
      have y3 := hm.z.frozen 3
      have c4 := hm.st.cell 4 (by decide)
      have z4 := hm.z.cell 4
      have y4 := hm.z.frozen 4
      have c5 := hm.st.cell 5 (by decide)
      have z5 := hm.z.cell 5
      have y5 := hm.z.frozen 5
      have c6 := hm.st.cell 6 (by decide)
      have z6 := hm.z.cell 6
      have y6 := hm.z.frozen 6
      have c7 := hm.st.cell 7 (by decide)
      have z7 := hm.z.cell 7
      have y7 := hm.z.frozen 7
      go_wp2_with fail
      obtain ⟨H, hH⟩ : ∃ H, unN f 8 = H := ⟨_, rfl⟩
      rw [hH] at hm
      simp only [hH]
      obtain ⟨W8, hW8, hz8, hb8⟩ := hm.out H
      rw [← hW8]
      clear c0 c1 c2 c3 c4 c5 c6 c7 z0 z1 z2 z3 z4 z5 z6 z7 y0 y1 y2 y3 y4 y5 y6 y7 hm hW8
      have r0 := (hz8.cell 0).trans (stv_get H 0 (by decide))
      have r1 := (hz8.cell 1).trans (stv_get H 1 (by decide))
      have r2 := (hz8.cell 2).trans (stv_get H 2 (by decide))
      have r3 := (hz8.cell 3).trans (stv_get H 3 (by decide))
      have r4 := (hz8.cell 4).trans (stv_get H 4 (by decide))
      have r5 := (hz8.cell 5).trans (stv_get H 5 (by decide))
      have r6 := (hz8.cell 6).trans (stv_get H 6 (by decide))
      have r7 := (hz8.cell 7).trans (stv_get H 7 (by decide))
      have hmix : unmix f = H := hH
      rw [hmix]
      refine bodyPost_ret (by simp [results, Tryd.results17, go_sem, r0, r1, r2, r3, r4, r5, r6, r7]; try rfl) rfl ?_
      exact ⟨rfl, hb8⟩
end Go.Proofs.YtekpfpikbgiblaaDoor
