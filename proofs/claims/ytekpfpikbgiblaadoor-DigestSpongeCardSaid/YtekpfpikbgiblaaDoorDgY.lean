/- Layer 3: a digest is read of its text, walked. -/
import Derived.Test.YtekpfpikbgiblaaDoorDgX
namespace Go.Proofs.YtekpfpikbgiblaaDoor
open Go.RowKit

@[local go_sem] theorem or_be1 (x y : UInt8) : bits .or .u32 ((x.toNat : Int) * 16777216) ((y.toNat : Int) * 65536) = (x.toNat : Int) * 16777216 + y.toNat * 65536 := by
  have := x.toNat_lt; have := y.toNat_lt
  rw [show (x.toNat : Int) * 16777216 = ((x.toNat * 16777216 : Nat) : Int) by omega, show (y.toNat : Int) * 65536 = ((y.toNat * 65536 : Nat) : Int) by omega, u32_or_nat _ _ (by omega) (by omega), nat_join 24 _ _ (by omega) (by omega)]
  omega
@[local go_sem] theorem or_be2 (x y z : UInt8) : bits .or .u32 ((x.toNat : Int) * 16777216 + y.toNat * 65536) ((z.toNat : Int) * 256) = (x.toNat : Int) * 16777216 + y.toNat * 65536 + z.toNat * 256 := by
  have := x.toNat_lt; have := y.toNat_lt; have := z.toNat_lt
  rw [show (x.toNat : Int) * 16777216 + y.toNat * 65536 = ((x.toNat * 16777216 + y.toNat * 65536 : Nat) : Int) by omega, show (z.toNat : Int) * 256 = ((z.toNat * 256 : Nat) : Int) by omega, u32_or_nat _ _ (by omega) (by omega), nat_join 16 _ _ (by omega) (by omega)]
  omega
@[local go_sem] theorem or_be3 (x y z u : UInt8) : bits .or .u32 ((x.toNat : Int) * 16777216 + y.toNat * 65536 + z.toNat * 256) (u.toNat : Int) = ((word4 u z y x).toNat : Int) := by
  have := x.toNat_lt; have := y.toNat_lt; have := z.toNat_lt; have := u.toNat_lt
  rw [word4_toNat, show (x.toNat : Int) * 16777216 + y.toNat * 65536 + z.toNat * 256 = ((x.toNat * 16777216 + y.toNat * 65536 + z.toNat * 256 : Nat) : Int) by omega, u32_or_nat _ _ (by omega) (by omega), nat_join 8 _ _ (by omega) (by omega)]
  omega

/-- The first i words are those of the bytes l. -/
def deTo (l : List UInt8) (i : Nat) : Nat → UInt32 := fun k => if k < i then deB l k else 0
theorem dgv_set (f : Nat → UInt32) (i : Nat) (v : UInt32) (h : i < 4) : (dgv f).setIfInBounds i (wv v) = dgv (sup f i v) := by
  match i, h with
  | 0, _ | 1, _ | 2, _ | 3, _ => rfl
theorem deTo_step (l : List UInt8) (i : Nat) : sup (deTo l i) i (deB l i) = deTo l (i + 1) := by
  funext k
  unfold sup deTo
  by_cases h : k = i
  · subst h; rw [if_pos rfl, if_pos (by omega)]
  · rw [if_neg h]
    by_cases h2 : k < i
    · rw [if_pos h2, if_pos (by omega)]
    · rw [if_neg h2, if_neg (by omega)]
theorem deTo_zero (l : List UInt8) : deTo l 0 = fun _ => 0 := by funext k; unfold deTo; rw [if_neg (by omega)]
theorem dgv_ext {f g : Nat → UInt32} (h : ∀ k, k < 4 → f k = g k) : dgv f = dgv g := by
  unfold dgv
  rw [h 0 (by decide), h 1 (by decide), h 2 (by decide), h 3 (by decide)]
theorem deTo_end (l : List UInt8) : dgv (deTo l 4) = dgv (deB l) := dgv_ext fun k hk => by unfold deTo; rw [if_pos hk]
theorem deB_get (s : ByteArray) (k : Nat) (h : 4 * k + 3 < s.size) : deB s.data.toList k = word4 (s[4 * k + 3]'h) (s[4 * k + 2]'(by omega)) (s[4 * k + 1]'(by omega)) (s[4 * k]'(by omega)) := by
  have hl : s.data.toList.length = s.size := rfl
  unfold deB
  rw [List.getD_eq_getElem?_getD, List.getD_eq_getElem?_getD, List.getD_eq_getElem?_getD, List.getD_eq_getElem?_getD, List.getElem?_eq_getElem (by omega), List.getElem?_eq_getElem (by omega), List.getElem?_eq_getElem (by omega), List.getElem?_eq_getElem (by omega)]
  rfl

theorem Blk.out4 {w W : World} {g : Nat} {t : TypeId} {z0 z1 z2 z3 : Value} (h : Blk W g t #[z0, z1, z2, z3]) (hb : Below w.heap.size w W) (hg : w.heap.size ≤ g) (v0 v1 v2 v3 : Value) :
    ∃ W4, W4 = (((W.setCell ⟨g, 0, none⟩ v0).setCell ⟨g, 1, none⟩ v1).setCell ⟨g, 2, none⟩ v2).setCell ⟨g, 3, none⟩ v3 ∧ Blk W4 g t #[v0, v1, v2, v3] ∧ Below w.heap.size w W4 := by
  refine ⟨_, rfl, ?_, (((hb.setCell (p := ⟨g, 0, none⟩) hg _).setCell (p := ⟨g, 1, none⟩) hg _).setCell (p := ⟨g, 2, none⟩) hg _).setCell (p := ⟨g, 3, none⟩) hg _⟩
  have h4 := (((h.set 0 v0).set 1 v1).set 2 v2).set 3 v3
  simpa only [List.setIfInBounds_toArray, List.set_cons_zero, List.set_cons_succ] using h4
theorem parse_len {s : ByteArray} (hs : s.size = 32) (hp : (parseI s.data.toList).2.2 = true) : (parseI s.data.toList).1.length = 16 := by
  have hl : s.data.toList.length = 32 := hs
  unfold parseI at hp ⊢
  split at hp
  · cases hp
  · rename_i h
    split at hp
    · cases hp
    · rename_i h2
      rw [if_neg h2]
      dsimp only
      rw [pairs_length, hl]

set_option maxHeartbeats 1000000 in
theorem digest_Parse_short (s : ByteArray) (w : World) (hs : s.size ≠ 32) :
    Calls Tryd.prog 15 #[.string s] w fun e w' => e = .returned (.tuple #[.agg (dgv fun _ => 0), .int .i64 3]) ∧ Below w.heap.size w w' := by
  have h32 : ((s.size : Int) != 32) = true := by rw [bne_iff_ne]; omega
  go_enter Tryd.func15, Tryd.ntmps15
  go_wp2_with fail
  go_returns
  exact ⟨rfl, (Below.refl _ w).alloc (Nat.le_refl _) _⟩

set_option maxHeartbeats 1000000 in
theorem digest_Parse_bad (s : ByteArray) (w : World) (hs : s.size = 32) (hT : Small w) (hp : Hid ((parseI s.data.toList).2.2 = false)) :
    Calls Tryd.prog 15 #[.string s] w fun e w' => e = .returned (.tuple #[.agg (dgv fun _ => 0), .int .i64 3]) ∧ Below w.heap.size w w' := by
  have h32 : ((s.size : Int) != 32) = false := by rw [bne_eq_false_iff_eq]; omega
  have hE : parseE s.data.toList = 3 := by unfold parseE; rw [hp.out]
  have HE := Lib.hid hE
  clear hE
  go_enter Tryd.func15, Tryd.ntmps15
  go_wp2_with fail
  refine (hex_Parse s _ (by omega) (hT.below ((Below.refl _ w).alloc (Nat.le_refl _) _) hT.1)).mono ?_
  rintro e w1 ⟨⟨t, rfl, ht⟩, hb1⟩
  rw [HE.out]
  have hR := (Blk.new w 25 #[.int .u32 0, .int .u32 0, .int .u32 0, .int .u32 0]).below hb1 (by simp)
  have bel := below_new hb1
  clear hb1
  have z0 := hR.cell 0
  have y0 := hR.frozen 0
  have z1 := hR.cell 1
  have y1 := hR.frozen 1
  have z2 := hR.cell 2
  have y2 := hR.frozen 2
  have z3 := hR.cell 3
  have y3 := hR.frozen 3
  go_wp2_with fail
  obtain ⟨W4, hW4, hR4, hb4⟩ := hR.out4 bel (Nat.le_refl _) (.int .u32 0) (.int .u32 0) (.int .u32 0) (.int .u32 0)
  rw [← hW4]
  clear z0 z1 z2 z3 y0 y1 y2 y3 hW4
  have r0 := hR4.cell 0
  have r1 := hR4.cell 1
  have r2 := hR4.cell 2
  have r3 := hR4.cell 3
  refine bodyPost_ret (by simp [results, Tryd.results15, go_sem, r0, r1, r2, r3]; try rfl) rfl ?_
  exact ⟨rfl, hb4⟩

set_option maxHeartbeats 1000000 in
theorem digest_Parse_ok (s : ByteArray) (w : World) (hs : s.size = 32) (hT : Small w) (hp : Hid ((parseI s.data.toList).2.2 = true)) :
    Calls Tryd.prog 15 #[.string s] w fun e w' => e = .returned (.tuple #[.agg (dgv (deB (parseI s.data.toList).1)), .int .i64 0]) ∧ Below w.heap.size w w' := by
  have h32 : ((s.size : Int) != 32) = false := by rw [bne_eq_false_iff_eq]; omega
  have hE : parseE s.data.toList = 0 := by unfold parseE; rw [hp.out]
  have HE := Lib.hid hE
  have h16 : (parseI s.data.toList).1.length = 16 := parse_len hs hp.out
  have H16 := Lib.hid h16
  clear hE h16
  go_enter Tryd.func15, Tryd.ntmps15
  go_wp2_with fail
  refine (hex_Parse s _ (by omega) (hT.below ((Below.refl _ w).alloc (Nat.le_refl _) _) hT.1)).mono ?_
  rintro e w1 ⟨⟨t, rfl, ht⟩, hb1⟩
  rw [HE.out]
  have hR := (Blk.new w 25 #[.int .u32 0, .int .u32 0, .int .u32 0, .int .u32 0]).below hb1 (by simp)
  have bel := below_new hb1
  have ht16 : t.size = 16 := by have h := congrArg List.length ht.out; rw [H16.out] at h; exact h
  have hlt1 : w.heap.size < w1.heap.size := by have := hb1.size; simp at this; omega
  have HT16 := Lib.hid ht16
  clear hb1 ht16
  go_wp2_with fail
  have hD0 : Blk (w1.alloc (.cells (dgv fun _ => 0) 25)) w1.heap.size 25 (dgv fun _ => 0) := Blk.new w1 _ _
  have hR0 := hR.alloc (.cells (dgv fun _ => 0) 25)
  have bel0 := bel.alloc bel.size (.cells (dgv fun _ => 0) 25)
  clear hR bel
  obtain ⟨g, hg⟩ : ∃ g, w1.heap.size = g := ⟨_, rfl⟩
  rw [hg] at hD0 hlt1
  simp only [hg]
  clear hg
  replace hD0 : Blk (w1.alloc (.cells #[.int .u32 0, .int .u32 0, .int .u32 0, .int .u32 0] 25)) g 25 (dgv fun _ => 0) := hD0
  replace hR0 : Blk (w1.alloc (.cells #[.int .u32 0, .int .u32 0, .int .u32 0, .int .u32 0] 25)) w.heap.size 25 #[.int .u32 0, .int .u32 0, .int .u32 0, .int .u32 0] := hR0
  replace bel0 : Below w.heap.size w (w1.alloc (.cells #[.int .u32 0, .int .u32 0, .int .u32 0, .int .u32 0] 25)) := bel0
  generalize w1.alloc _ = w2 at hD0 hR0 bel0 ⊢
  rw [← deTo_zero t.data.toList] at hD0
  go_loopw [22] (fun i wr => ∃ k : Nat, k ≤ 4 ∧ i = .int .i64 k ∧ Blk wr g 25 (dgv (deTo t.data.toList k)) ∧ Blk wr w.heap.size 25 #[.int .u32 0, .int .u32 0, .int .u32 0, .int .u32 0] ∧ Below w.heap.size w wr) (fun i _ => 4 - (intOf i).toNat)
  case atStart => exact ⟨0, by omega, rfl, hD0, hR0, bel0⟩
  case round =>
    clear hD0 hR0 bel0
    obtain ⟨k, hk, rfl, hD, hR, hbel⟩ := hrel
    by_cases hlt : k < 4
    · have i3 : 4 * k + 3 < t.size := by have := HT16.out; omega
      have hv := deB_get t k i3
      have HV := Lib.hid hv
      have hc := (hD.cell k).trans (dgv_get _ k hlt)
      simp only [wv] at hc
      have hf := hD.frozen k
      have hkI : (k : Int) < 4 := by omega
      have hk0 : (0 : Int) ≤ k := by omega
      have hwa : IntKind.i64.wrap (4 * (k : Int)) = 4 * (k : Int) := IntWalk.i64_in _ (by omega)
      have i0 : 4 * k < t.size := by omega
      have i1 : 4 * k + 1 < t.size := by omega
      have i2 : 4 * k + 2 < t.size := by omega
      have j1 : 4 * (k : Int) + 1 < t.size := by omega
      have p1 : 0 ≤ 4 * (k : Int) + 1 := by omega
      have t1 : (4 * (k : Int) + 1).toNat = 4 * k + 1 := by omega
      have q1 : IntKind.i64.wrap (4 * (k : Int) + 1) = 4 * (k : Int) + 1 := IntWalk.i64_in _ (by omega)
      have j2 : 4 * (k : Int) + 2 < t.size := by omega
      have p2 : 0 ≤ 4 * (k : Int) + 2 := by omega
      have t2 : (4 * (k : Int) + 2).toNat = 4 * k + 2 := by omega
      have q2 : IntKind.i64.wrap (4 * (k : Int) + 2) = 4 * (k : Int) + 2 := IntWalk.i64_in _ (by omega)
      have j3 : 4 * (k : Int) + 3 < t.size := by omega
      have p3 : 0 ≤ 4 * (k : Int) + 3 := by omega
      have t3 : (4 * (k : Int) + 3).toNat = 4 * k + 3 := by omega
      have q3 : IntKind.i64.wrap (4 * (k : Int) + 3) = 4 * (k : Int) + 3 := IntWalk.i64_in _ (by omega)
      have j0 : 4 * (k : Int) < t.size := by omega
      have p0 : 0 ≤ 4 * (k : Int) := by omega
      have t0 : (4 * (k : Int)).toNat = 4 * k := by omega
      clear hv
      go_wp2_with fail
      go_region
      rw [← HV.out]
      have hD2 := hD.set k (wv (deB t.data.toList k))
      rw [dgv_set _ _ _ hlt, deTo_step] at hD2
      have hR2 := hR.far (p := ⟨g, k, none⟩) (by simp; omega) (wv (deB t.data.toList k))
      have bel2 := hbel.setCell (p := ⟨g, k, none⟩) (Nat.le_of_lt hlt1) (wv (deB t.data.toList k))
      simp only [wv] at hD2 hR2 bel2
      generalize wr.setCell _ _ = w3 at hD2 hR2 bel2 ⊢
      go_wp2_with fail
      go_roundw
      case rel => exact ⟨k + 1, hlt, rfl, hD2.drew, hR2.drew, bel2.drew⟩
      case measure => simp [intOf]; omega
    · obtain rfl : k = 4 := by omega
      rw [deTo_end] at hD
      obtain ⟨F, hF⟩ : ∃ F, deB t.data.toList = F := ⟨_, rfl⟩
      rw [hF] at hD
      have HF := Lib.hid hF
      clear hF
      have c0 := (hD.cell 0).trans (dgv_get _ 0 (by decide))
      have z0 := hR.cell 0
      have y0 := hR.frozen 0
      have c1 := (hD.cell 1).trans (dgv_get _ 1 (by decide))
      have z1 := hR.cell 1
      have y1 := hR.frozen 1
      have c2 := (hD.cell 2).trans (dgv_get _ 2 (by decide))
      have z2 := hR.cell 2
      have y2 := hR.frozen 2
      have c3 := (hD.cell 3).trans (dgv_get _ 3 (by decide))
      have z3 := hR.cell 3
      have y3 := hR.frozen 3
      simp only [wv] at c0 c1 c2 c3
      go_wp2_with fail
      obtain ⟨W4, hW4, hR4, hb4⟩ := hR.out4 hbel (Nat.le_refl _) (.int .u32 (F 0).toNat) (.int .u32 (F 1).toNat) (.int .u32 (F 2).toNat) (.int .u32 (F 3).toNat)
      rw [← hW4]
      clear c0 c1 c2 c3 z0 z1 z2 z3 y0 y1 y2 y3 hW4
      have r0 := hR4.cell 0
      have r1 := hR4.cell 1
      have r2 := hR4.cell 2
      have r3 := hR4.cell 3
      have hfin : deB (parseI s.data.toList).1 = F := by rw [← ht.out]; exact HF.out
      rw [hfin]
      refine bodyPost_ret (by simp [results, Tryd.results15, go_sem, r0, r1, r2, r3]; try rfl) rfl ?_
      exact ⟨rfl, hb4⟩
end Go.Proofs.YtekpfpikbgiblaaDoor
