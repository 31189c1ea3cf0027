/- Layer 3, the document's reading of a digest, walked. -/
import Derived.Test.YtbhibkhmjdleoaaDoorDgY
import Derived.Test.YtbhibkhmjdleoaaDoorHxS
namespace Go.Proofs.YtbhibkhmjdleoaaDoor
open Go.RowKit

/-- The words, of the first k bytes. -/
def deK (l : List UInt8) : Nat → (Nat → UInt32)
  | 0 => fun _ => 0
  | k + 1 => sup (deK l k) (k / 4) (UInt32.ofNat ((deK l k (k / 4)).toNat * 256 % 4294967296 + (l.getD k 0).toNat))
theorem deK_other (l : List UInt8) (k j : Nat) (h : k / 4 ≠ j) : deK l (k + 1) j = deK l k j := by
  rw [deK]; unfold sup; rw [if_neg (fun e => h e.symm)]
theorem deK_same (l : List UInt8) (k j : Nat) (h : k / 4 = j) : deK l (k + 1) j = UInt32.ofNat ((deK l k j).toNat * 256 % 4294967296 + (l.getD k 0).toNat) := by
  subst h; rw [deK]; unfold sup; rw [if_pos rfl]
theorem deK_zero (l : List UInt8) (k j : Nat) (h : k ≤ 4 * j) : deK l k j = 0 := by
  induction k with
  | zero => rfl
  | succ k ih => rw [deK_other _ _ _ (by omega), ih (by omega)]
theorem deK_word (l : List UInt8) (j : Nat) : deK l (4 * j + 4) j = deB l j := by
  have h0 := deK_zero l (4 * j) j (Nat.le_refl _)
  have a := (l.getD (4 * j) 0).toNat_lt
  have b := (l.getD (4 * j + 1) 0).toNat_lt
  have c := (l.getD (4 * j + 2) 0).toNat_lt
  have d := (l.getD (4 * j + 3) 0).toNat_lt
  have e1 : (deK l (4 * j + 1) j).toNat = (l.getD (4 * j) 0).toNat := by
    rw [deK_same _ _ _ (by omega), h0, UInt32.toNat_ofNat']
    show (0 * 256 % 4294967296 + _) % _ = _
    omega
  have e2 : (deK l (4 * j + 2) j).toNat = (l.getD (4 * j) 0).toNat * 256 + (l.getD (4 * j + 1) 0).toNat := by
    rw [deK_same _ _ _ (by omega), e1, UInt32.toNat_ofNat']
    omega
  have e3 : (deK l (4 * j + 3) j).toNat = ((l.getD (4 * j) 0).toNat * 256 + (l.getD (4 * j + 1) 0).toNat) * 256 + (l.getD (4 * j + 2) 0).toNat := by
    rw [deK_same _ _ _ (by omega), e2, UInt32.toNat_ofNat']
    omega
  apply UInt32.toNat_inj.1
  unfold deB
  rw [deK_same _ _ _ (by omega), e3, UInt32.toNat_ofNat', word4_toNat]
  omega
theorem deK_keep (l : List UInt8) (j m : Nat) : deK l (4 * j + 4 + m) j = deB l j := by
  induction m with
  | zero => exact deK_word l j
  | succ m ih => rw [← Nat.add_assoc, deK_other _ _ _ (by omega), ih]
theorem deK_end (l : List UInt8) : dgv (deK l 16) = dgv (deB l) := dgv_ext fun k hk => by
  have h := deK_keep l k (12 - 4 * k)
  rwa [show 4 * k + 4 + (12 - 4 * k) = 16 by omega] at h

theorem or_step (v : UInt32) (x : UInt8) : bits .or .u32 ((v.toNat : Int) * 256 % 4294967296) (x.toNat : Int) = ((UInt32.ofNat (v.toNat * 256 % 4294967296 + x.toNat)).toNat : Int) := by
  have := v.toNat_lt; have := x.toNat_lt
  rw [show (v.toNat : Int) * 256 % 4294967296 = ((v.toNat * 256 % 4294967296 : Nat) : Int) by omega, u32_or_nat _ _ (by omega) (by omega), nat_join 8 _ _ (by omega) (by omega), UInt32.toNat_ofNat']
  omega

set_option maxHeartbeats 1000000 in
theorem ref_dParse_bad (s : ByteArray) (w : World) (hs : s.size ≤ 1000000000000) (h : Hid ((parseI s.data.toList).2.2 = false ∨ s.size ≠ 32)) :
    Calls Tryd.prog 19 #[.string s] w fun e w' => e = .returned (.tuple #[.agg (dgv fun _ => 0), .int .i64 3]) ∧ Below w.heap.size w w' := by
  have hcase : ((parseI s.data.toList).2.2 = false ∧ parseE s.data.toList = 3) ∨ ((parseI s.data.toList).1.length ≠ 16 ∧ parseE s.data.toList = 0) := by
    cases hp : (parseI s.data.toList).2.2 with
    | false => exact .inl ⟨rfl, by unfold parseE; rw [hp]⟩
    | true =>
      refine .inr ⟨?_, by unfold parseE; rw [hp]⟩
      rcases h.out with h1 | h1
      · rw [hp] at h1; cases h1
      · unfold parseI at hp ⊢
        split at hp
        · cases hp
        · split at hp
          · cases hp
          · rename_i h2
            rw [if_neg h2]
            dsimp only
            rw [pairs_length]
            have : s.data.toList.length = s.size := rfl
            omega
  rcases hcase with ⟨h1, h2⟩ | ⟨h1, h2⟩
  · have HE := Lib.hid h2
    clear h1 h2
    go_enter Tryd.func19, Tryd.ntmps19
    go_wp2_with fail
    refine (ref_hexParse s _ hs).mono ?_
    rintro e w1 ⟨⟨t, rfl, ht⟩, hb1⟩
    rw [HE.out]
    have hR := (Blk.new w 29 #[.int .u32 0, .int .u32 0, .int .u32 0, .int .u32 0]).below hb1 (by simp)
    have bel := below_new hb1
    clear hb1
    have z0 := hR.cell 0
    have y0 := hR.frozen 0
    have z1 := hR.cell 1
    have y1 := hR.frozen 1
    have z2 := hR.cell 2
    have y2 := hR.frozen 2
    have z3 := hR.cell 3
    have y3 := hR.frozen 3
    go_wp2_with fail
    obtain ⟨W4, hW4, hR4, hb4⟩ := hR.out4 bel (Nat.le_refl _) (.int .u32 0) (.int .u32 0) (.int .u32 0) (.int .u32 0)
    rw [← hW4]
    clear z0 z1 z2 z3 y0 y1 y2 y3 hW4
    have r0 := hR4.cell 0
    have r1 := hR4.cell 1
    have r2 := hR4.cell 2
    have r3 := hR4.cell 3
    refine bodyPost_ret (by simp [results, Tryd.results19, go_sem, r0, r1, r2, r3]; try rfl) rfl ?_
    exact ⟨rfl, hb4⟩
  · have HE := Lib.hid h2
    have HL := Lib.hid h1
    clear h1 h2
    go_enter Tryd.func19, Tryd.ntmps19
    go_wp2_with fail
    refine (ref_hexParse s _ hs).mono ?_
    rintro e w1 ⟨⟨t, rfl, ht⟩, hb1⟩
    rw [HE.out]
    have h16 : ((t.size : Int) != 16) = true := by
      rw [bne_iff_ne]
      intro h
      refine HL.out ?_
      rw [← ht.out]
      show t.size = 16
      omega
    have hR := (Blk.new w 29 #[.int .u32 0, .int .u32 0, .int .u32 0, .int .u32 0]).below hb1 (by simp)
    have bel := below_new hb1
    clear hb1
    have z0 := hR.cell 0
    have y0 := hR.frozen 0
    have z1 := hR.cell 1
    have y1 := hR.frozen 1
    have z2 := hR.cell 2
    have y2 := hR.frozen 2
    have z3 := hR.cell 3
    have y3 := hR.frozen 3
    go_wp2_with fail
    obtain ⟨W4, hW4, hR4, hb4⟩ := hR.out4 bel (Nat.le_refl _) (.int .u32 0) (.int .u32 0) (.int .u32 0) (.int .u32 0)
    rw [← hW4]
    clear z0 z1 z2 z3 y0 y1 y2 y3 hW4
    have r0 := hR4.cell 0
    have r1 := hR4.cell 1
    have r2 := hR4.cell 2
    have r3 := hR4.cell 3
    refine bodyPost_ret (by simp [results, Tryd.results19, go_sem, r0, r1, r2, r3]; try rfl) rfl ?_
    exact ⟨rfl, hb4⟩

set_option maxHeartbeats 2000000 in
theorem ref_dParse_ok (s : ByteArray) (w : World) (hs : s.size = 32) (hp : Hid ((parseI s.data.toList).2.2 = true)) :
    Calls Tryd.prog 19 #[.string s] w fun e w' => e = .returned (.tuple #[.agg (dgv (deB (parseI s.data.toList).1)), .int .i64 0]) ∧ Below w.heap.size w w' := by
  have hE : parseE s.data.toList = 0 := by unfold parseE; rw [hp.out]
  have HE := Lib.hid hE
  have h16 : (parseI s.data.toList).1.length = 16 := parse_len hs hp.out
  have H16 := Lib.hid h16
  clear hE h16
  go_enter Tryd.func19, Tryd.ntmps19
  go_wp2_with fail
  refine (ref_hexParse s _ (by omega)).mono ?_
  rintro e w1 ⟨⟨t, rfl, ht⟩, hb1⟩
  rw [HE.out]
  have hR := (Blk.new w 29 #[.int .u32 0, .int .u32 0, .int .u32 0, .int .u32 0]).below hb1 (by simp)
  have bel := below_new hb1
  have ht16 : t.size = 16 := by have h := congrArg List.length ht.out; rw [H16.out] at h; exact h
  have h16I : ((t.size : Int) != 16) = false := by rw [bne_eq_false_iff_eq]; omega
  have hlt1 : w.heap.size < w1.heap.size := by have := hb1.size; simp at this; omega
  have HT16 := Lib.hid ht16
  clear hb1 ht16
  go_wp2_with fail
  have hD0 : Blk (w1.alloc (.cells (dgv fun _ => 0) 29)) w1.heap.size 29 (dgv fun _ => 0) := Blk.new w1 _ _
  have hR0 := hR.alloc (.cells (dgv fun _ => 0) 29)
  have bel0 := bel.alloc bel.size (.cells (dgv fun _ => 0) 29)
  clear hR bel
  obtain ⟨g, hg⟩ : ∃ g, w1.heap.size = g := ⟨_, rfl⟩
  rw [hg] at hD0 hlt1
  simp only [hg]
  clear hg
  replace hD0 : Blk (w1.alloc (.cells #[.int .u32 0, .int .u32 0, .int .u32 0, .int .u32 0] 29)) g 29 (dgv (deK t.data.toList 0)) := hD0
  replace hR0 : Blk (w1.alloc (.cells #[.int .u32 0, .int .u32 0, .int .u32 0, .int .u32 0] 29)) w.heap.size 29 #[.int .u32 0, .int .u32 0, .int .u32 0, .int .u32 0] := hR0
  replace bel0 : Below w.heap.size w (w1.alloc (.cells #[.int .u32 0, .int .u32 0, .int .u32 0, .int .u32 0] 29)) := bel0
  generalize w1.alloc _ = w2 at hD0 hR0 bel0 ⊢
  go_loopw [8] (fun i wr => ∃ k : Nat, k ≤ 16 ∧ i = .int .i64 k ∧ Blk wr g 29 (dgv (deK t.data.toList k)) ∧ Blk wr w.heap.size 29 #[.int .u32 0, .int .u32 0, .int .u32 0, .int .u32 0] ∧ Below w.heap.size w wr) (fun i _ => 16 - (intOf i).toNat)
  case atStart => exact ⟨0, by omega, rfl, hD0, hR0, bel0⟩
  case round =>
    clear hD0 hR0 bel0
    obtain ⟨k, hk, rfl, hD, hR, hbel⟩ := hrel
    by_cases hlt : k < 16
    · have hkt : k < t.size := by have := HT16.out; omega
      obtain ⟨x, hx⟩ : ∃ x, t[k] = x := ⟨_, rfl⟩
      have hq4 : k / 4 < 4 := by omega
      obtain ⟨v, hv⟩ : ∃ v, deK t.data.toList k (k / 4) = v := ⟨_, rfl⟩
      have hc := (hD.cell (k / 4)).trans (dgv_get _ (k / 4) hq4)
      rw [hv] at hc
      simp only [wv] at hc
      have HV : Hid (deK t.data.toList (k + 1) = sup (deK t.data.toList k) (k / 4) (UInt32.ofNat (v.toNat * 256 % 4294967296 + x.toNat))) := by
        unfold Hid
        rw [deK, hv, show t.data.toList.getD k 0 = x by rw [List.getD_eq_getElem?_getD, List.getElem?_eq_getElem (show k < t.data.toList.length from hkt)]; exact hx]
      have hf := hD.frozen (k / 4)
      have hktI : (k : Int) < t.size := by omega
      have hk0 : (0 : Int) ≤ k := by omega
      have p0 : 0 ≤ (k : Int) / 4 := by omega
      have p1 : (k : Int) / 4 < 4 := by omega
      have p2 : ((k : Int) / 4).toNat = k / 4 := by omega
      have p3 : (k : Int).tdiv 4 = (k : Int) / 4 := Int.tdiv_eq_ediv_of_nonneg (by omega)
      have p4 : IntKind.i64.wrap ((k : Int) / 4) = (k : Int) / 4 := IntWalk.i64_in _ (by omega)
      have hv32 := v.toNat_lt
      have hx8 := x.toNat_lt
      clear hv
      go_wp2_with fail
      go_region
      rw [or_step]
      have hD2 := hD.set (k / 4) (wv (UInt32.ofNat (v.toNat * 256 % 4294967296 + x.toNat)))
      rw [dgv_set _ _ _ hq4, ← HV.out] at hD2
      have hR2 := hR.far (p := ⟨g, k / 4, none⟩) (by simp; omega) (wv (UInt32.ofNat (v.toNat * 256 % 4294967296 + x.toNat)))
      have bel2 := hbel.setCell (p := ⟨g, k / 4, none⟩) (Nat.le_of_lt hlt1) (wv (UInt32.ofNat (v.toNat * 256 % 4294967296 + x.toNat)))
      simp only [wv] at hD2 hR2 bel2
      generalize wr.setCell _ _ = w3 at hD2 hR2 bel2 ⊢
      go_wp2_with fail
      go_roundw
      case rel => exact ⟨k + 1, hlt, rfl, hD2.drew, hR2.drew, bel2.drew⟩
      case measure => simp [intOf]; omega
    · obtain rfl : k = 16 := by omega
      rw [deK_end] at hD
      obtain ⟨F, hF⟩ : ∃ F, deB t.data.toList = F := ⟨_, rfl⟩
      rw [hF] at hD
      have HF := Lib.hid hF
      clear hF
      have c0 := (hD.cell 0).trans (dgv_get _ 0 (by decide))
      have z0 := hR.cell 0
      have y0 := hR.frozen 0
      have c1 := (hD.cell 1).trans (dgv_get _ 1 (by decide))
      have z1 := hR.cell 1
      have y1 := hR.frozen 1
      have c2 := (hD.cell 2).trans (dgv_get _ 2 (by decide))
      have z2 := hR.cell 2
      have y2 := hR.frozen 2
      have c3 := (hD.cell 3).trans (dgv_get _ 3 (by decide))
      have z3 := hR.cell 3
      have y3 := hR.frozen 3
      simp only [wv] at c0 c1 c2 c3
      go_wp2_with fail
      obtain ⟨W4, hW4, hR4, hb4⟩ := hR.out4 hbel (Nat.le_refl _) (.int .u32 (F 0).toNat) (.int .u32 (F 1).toNat) (.int .u32 (F 2).toNat) (.int .u32 (F 3).toNat)
      rw [← hW4]
      clear c0 c1 c2 c3 z0 z1 z2 z3 y0 y1 y2 y3 hW4
      have r0 := hR4.cell 0
      have r1 := hR4.cell 1
      have r2 := hR4.cell 2
      have r3 := hR4.cell 3
      have hfin : deB (parseI s.data.toList).1 = F := by rw [← ht.out]; exact HF.out
      rw [hfin]
      refine bodyPost_ret (by simp [results, Tryd.results19, go_sem, r0, r1, r2, r3]; try rfl) rfl ?_
      exact ⟨rfl, hb4⟩
end Go.Proofs.YtbhibkhmjdleoaaDoor
