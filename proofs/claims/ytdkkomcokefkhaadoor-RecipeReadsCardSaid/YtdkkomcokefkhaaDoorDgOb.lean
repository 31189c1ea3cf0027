/- Layer 3: four words of a text's bytes, walked. -/
import Derived.Test.YtdkkomcokefkhaaDoorDgOa
namespace Go.Proofs.YtdkkomcokefkhaaDoor
open Go.RowKit

def fillTo (g : Nat → UInt32) (j : Nat) : Nat → UInt32 := fun i => if i < j then g i else 0
theorem fill_step (g : Nat → UInt32) (j : Nat) : sup (fillTo g j) j (g j) = fillTo g (j + 1) := by
  funext i
  unfold sup fillTo
  by_cases h : i = j
  · subst h; rw [if_pos rfl, if_pos (by omega)]
  · rw [if_neg h]
    by_cases h2 : i < j
    · rw [if_pos h2, if_pos (by omega)]
    · rw [if_neg h2, if_neg (by omega)]
theorem fill_end (g : Nat → UInt32) : dgv (fillTo g 4) = dgv g := dgv_ext fun k hk => by unfold fillTo; rw [if_pos hk]
theorem leAt_get (l : List UInt8) (j : Nat) (h : 4 * j + 4 ≤ l.length) : leAt l j = word4 (l[4 * j]'(by omega)) (l[4 * j + 1]'(by omega)) (l[4 * j + 2]'(by omega)) (l[4 * j + 3]'(by omega)) := by
  have e : ∀ i (hi : i < l.length), l.getD i 0 = l[i] := fun i hi => by rw [List.getD_eq_getElem?_getD, List.getElem?_eq_getElem hi]; rfl
  unfold leAt
  rw [e _ (by omega), e _ (by omega), e _ (by omega), e _ (by omega)]

/-- What the walk of 'four' holds. -/
structure Fo (w : World) (f : Nat → UInt32) (W : World) : Prop where
  z : Blk W w.heap.size 23 #[.int .u32 0, .int .u32 0, .int .u32 0, .int .u32 0]
  bl : Blk W (w.heap.size + 1) 23 (dgv f)
  bel : Below w.heap.size w W
section
variable {w W W' : World} {f : Nat → UInt32}
theorem Fo.new (w : World) : Fo w (fillTo f 0) ((w.alloc (.cells #[.int .u32 0, .int .u32 0, .int .u32 0, .int .u32 0] 23)).alloc (.cells #[.int .u32 0, .int .u32 0, .int .u32 0, .int .u32 0] 23)) where
  z := (Blk.new w _ _).alloc _
  bl := by
    have h := Blk.new (w.alloc (.cells #[.int .u32 0, .int .u32 0, .int .u32 0, .int .u32 0] 23)) 23 #[.int .u32 0, .int .u32 0, .int .u32 0, .int .u32 0]
    rw [show (w.alloc (.cells #[.int .u32 0, .int .u32 0, .int .u32 0, .int .u32 0] 23)).heap.size = w.heap.size + 1 by simp] at h
    exact h
  bel := ((Below.refl _ w).alloc (Nat.le_refl _) _).alloc (by simp) _
theorem Fo.set (h : Fo w f W) (i : Nat) (hi : i < 4) (v : UInt32) : Fo w (sup f i v) (W.setCell ⟨w.heap.size + 1, i, none⟩ (.int .u32 v.toNat)) where
  z := h.z.far (by simp) _
  bl := by
    have h2 := h.bl.set i (wv v)
    rw [dgv_set f i v hi] at h2
    exact h2
  bel := h.bel.setCell (Nat.le_succ _) _
theorem Fo.drew (h : Fo w f W) : Fo w f W.drew := ⟨h.z.drew, h.bl.drew, h.bel.drew⟩
end

set_option maxHeartbeats 2000000 in
theorem digest_four (s : ByteArray) (x : Int) (m : Nat) (w : World) (hx : x = 4 * (m : Int)) (hm : 4 * m + 16 ≤ s.size) (hs : s.size ≤ 1000000000000) :
    Calls Tryd.prog 34 #[.string s, .int .i64 x] w fun e w' => e = .returned (.agg (dgv fun i => leAt s.data.toList (m + i))) ∧ Below w.heap.size w w' := by
  obtain ⟨g, hg⟩ : ∃ g : Nat → UInt32, (fun i => leAt s.data.toList (m + i)) = g := ⟨_, rfl⟩
  have HG : Hid (∀ j (h : 4 * (m + j) + 4 ≤ s.data.toList.length), g j = word4 (s.data.toList[4 * (m + j)]'(by omega)) (s.data.toList[4 * (m + j) + 1]'(by omega)) (s.data.toList[4 * (m + j) + 2]'(by omega)) (s.data.toList[4 * (m + j) + 3]'(by omega))) := by
    intro j h
    rw [← hg]
    exact leAt_get s.data.toList (m + j) h
  rw [hg]
  clear hg
  have hA := Fo.new (f := g) w
  go_enter Tryd.func34, Tryd.ntmps34
  go_wp2_with fail
  go_loopw [8] (fun iv wr => ∃ j : Nat, j ≤ 4 ∧ iv = .int .i64 j ∧ Fo w (fillTo g j) wr) (fun iv _ => 4 - (intOf iv).toNat)
  case atStart => exact ⟨0, by omega, rfl, hA⟩
  case round =>
    clear hA
    obtain ⟨j, hj, rfl, hF⟩ := hrel
    by_cases hlt : j < 4
    · have i0 : 4 * (m + j) < s.size := by omega
      have i1 : 4 * (m + j) + 1 < s.size := by omega
      have i2 : 4 * (m + j) + 2 < s.size := by omega
      have i3 : 4 * (m + j) + 3 < s.size := by omega
      have j0 : x + 4 * (j : Int) < s.size := by omega
      have j1 : x + 4 * (j : Int) + 1 < s.size := by omega
      have j2 : x + 4 * (j : Int) + 2 < s.size := by omega
      have j3 : x + 4 * (j : Int) + 3 < s.size := by omega
      have p0 : 0 ≤ x + 4 * (j : Int) := by omega
      have p1 : 0 ≤ x + 4 * (j : Int) + 1 := by omega
      have p2 : 0 ≤ x + 4 * (j : Int) + 2 := by omega
      have p3 : 0 ≤ x + 4 * (j : Int) + 3 := by omega
      have ht : (x + 4 * (j : Int)).toNat = 4 * (m + j) := by omega
      have ht1 : (x + 4 * (j : Int) + 1).toNat = 4 * (m + j) + 1 := by omega
      have ht2 : (x + 4 * (j : Int) + 2).toNat = 4 * (m + j) + 2 := by omega
      have ht3 : (x + 4 * (j : Int) + 3).toNat = 4 * (m + j) + 3 := by omega
      have HX := Lib.hid hx
      have hjI : (j : Int) < 4 := by omega
      have hj0 : (0 : Int) ≤ j := by omega
      have hc := hF.bl.frozen j
      have hlt2 := hF.bl.cell j
      rw [dgv_get _ j hlt] at hlt2
      simp only [wv] at hlt2
      clear hx
      go_wp2_with fail
      go_region
      have HV : word4 s[4 * (m + j)] s[4 * (m + j) + 1] s[4 * (m + j) + 2] s[4 * (m + j) + 3] = g j := (HG.out j (by show 4 * (m + j) + 4 ≤ s.size; omega)).symm
      simp only [HV]
      have hm2 := (hF.set j hlt (g j)).drew
      rw [fill_step] at hm2
      clear hc hlt2 hF
      go_wp2_with fail
      go_roundw
      case rel => exact ⟨j + 1, hlt, rfl, hm2⟩
      case measure => simp [intOf]; omega
    · obtain rfl : j = 4 := by omega
      have hb := hF.bl
      rw [fill_end] at hb
      have c0 := (hb.cell 0).trans (dgv_get g 0 (by decide))
      have c1 := (hb.cell 1).trans (dgv_get g 1 (by decide))
      have c2 := (hb.cell 2).trans (dgv_get g 2 (by decide))
      have c3 := (hb.cell 3).trans (dgv_get g 3 (by decide))
      simp only [wv] at c0 c1 c2 c3
      have y0 := hF.z.frozen 0
      have y1 := hF.z.frozen 1
      have y2 := hF.z.frozen 2
      have y3 := hF.z.frozen 3
      have z0 := hF.z.cell 0
      have z1 := hF.z.cell 1
      have z2 := hF.z.cell 2
      have z3 := hF.z.cell 3
      go_wp2_with fail
      obtain ⟨W4, hW4, hR4, hb4⟩ := hF.z.out4 hF.bel (Nat.le_refl _) (.int .u32 (g 0).toNat) (.int .u32 (g 1).toNat) (.int .u32 (g 2).toNat) (.int .u32 (g 3).toNat)
      rw [← hW4]
      clear c0 c1 c2 c3 y0 y1 y2 y3 z0 z1 z2 z3 hW4
      have r0 := hR4.cell 0
      have r1 := hR4.cell 1
      have r2 := hR4.cell 2
      have r3 := hR4.cell 3
      refine bodyPost_ret (by simp [results, Tryd.results34, go_sem, r0, r1, r2, r3]; try rfl) rfl ?_
      exact ⟨rfl, hb4⟩
end Go.Proofs.YtdkkomcokefkhaaDoor
