/- Layer 37: a recipe's digest; both answers, walked. -/
import Derived.Test.YtdkkomcokefkhaaDoorRcJ
import Derived.Test.YtdkkomcokefkhaaDoorDgOd
import Derived.Test.YtdkkomcokefkhaaDoorDgPR
namespace Go.Proofs.YtdkkomcokefkhaaDoor
open Go.RowKit

def nameL : List UInt8 := [114, 101, 99, 105, 112, 101]
/-- A recipe's digest, of its bytes. -/
def ofRL (l : List UInt8) : Nat → UInt32 := pairD (ofL l) (ofL nameL)

theorem recipe_Of_bad (t : Int) (I : Nat → UInt32) (A B : Option Addr) (ps : List Int) (c m e : Nat) (f : Int) (w : World) (hs : Sl w w.heap.size A ps.length (ps.map iv)) (hn : ps.length ≤ 1000000000000) (hm : m ≤ 1000000000000) (hr : rightR t I ps m f = false) :
    Calls Tryd.prog 13 #[.agg #[.int .i64 t, .int .u32 (I 0).toNat, .int .u32 (I 1).toNat, .int .u32 (I 2).toNat, .int .u32 (I 3).toNat, .slice A ps.length c, .slice B m e, .int .i64 f]] w fun r w' => r = .returned (.tuple #[.agg #[.int .u32 0, .int .u32 0, .int .u32 0, .int .u32 0], .int .i64 1]) ∧ Below w.heap.size w w' := by
  have h0 := Lib.hid ((Rb.new w t I (.slice A ps.length c) (.slice B m e) f).alloc (.cells #[.int .u32 0, .int .u32 0, .int .u32 0, .int .u32 0] 24))
  have hD := Blk.new (w.alloc (.cells (recv t I (.slice A ps.length c) (.slice B m e) f) 28)) 24 #[.int .u32 0, .int .u32 0, .int .u32 0, .int .u32 0]
  rw [show (w.alloc (.cells (recv t I (.slice A ps.length c) (.slice B m e) f) 28)).heap.size = w.heap.size + 1 by simp] at hD
  have HD := Lib.hid hD
  clear hD
  obtain ⟨c0, c1, c2, c3, c4, c5, c6, c7⟩ := h0.out.all
  go_enter Tryd.func13, Tryd.ntmps13
  go_wp2_with fail
  refine (recipe_Put_bad t I A B ps c m e f _ ((hs.below h0.out.bel).more h0.out.bel.size) hn hm hr).mono ?_
  rintro r w1 ⟨rfl, hb1⟩
  have hD1 := HD.out.below hb1 HD.out.lt
  have d0 := hD1.cell 0
  have d1 := hD1.cell 1
  have d2 := hD1.cell 2
  have d3 := hD1.cell 3
  have f0 := hD1.frozen 0
  have f1 := hD1.frozen 1
  have f2 := hD1.frozen 2
  have f3 := hD1.frozen 3
  have HB := h0.out.bel.trans (hb1.mono h0.out.bel.size)
  clear c0 c1 c2 c3 c4 c5 c6 c7 hb1
  go_wp2_with fail
  obtain ⟨W4, hW4, hR4, hb4⟩ := hD1.out4 HB (Nat.le_succ _) (.int .u32 0) (.int .u32 0) (.int .u32 0) (.int .u32 0)
  rw [← hW4]
  clear d0 d1 d2 d3 f0 f1 f2 f3 hW4
  have r0 := hR4.cell 0
  have r1 := hR4.cell 1
  have r2 := hR4.cell 2
  have r3 := hR4.cell 3
  refine bodyPost_ret (by simp [results, Tryd.results13, go_sem, r0, r1, r2, r3]; try rfl) rfl ?_
  exact ⟨rfl, hb4⟩
theorem refR_Of_bad (t : Int) (I : Nat → UInt32) (A B : Option Addr) (ps : List Int) (c m e : Nat) (f : Int) (w : World) (hs : Sl w w.heap.size A ps.length (ps.map iv)) (hn : ps.length ≤ 1000000000000) (hm : m ≤ 1000000000000) (hr : rightR t I ps m f = false) :
    Calls Tryd.prog 14 #[.agg #[.int .i64 t, .int .u32 (I 0).toNat, .int .u32 (I 1).toNat, .int .u32 (I 2).toNat, .int .u32 (I 3).toNat, .slice A ps.length c, .slice B m e, .int .i64 f]] w fun r w' => r = .returned (.tuple #[.agg #[.int .u32 0, .int .u32 0, .int .u32 0, .int .u32 0], .int .i64 1]) ∧ Below w.heap.size w w' := by
  have h0 := Lib.hid ((Rb.new w t I (.slice A ps.length c) (.slice B m e) f).alloc (.cells #[.int .u32 0, .int .u32 0, .int .u32 0, .int .u32 0] 24))
  have hD := Blk.new (w.alloc (.cells (recv t I (.slice A ps.length c) (.slice B m e) f) 28)) 24 #[.int .u32 0, .int .u32 0, .int .u32 0, .int .u32 0]
  rw [show (w.alloc (.cells (recv t I (.slice A ps.length c) (.slice B m e) f) 28)).heap.size = w.heap.size + 1 by simp] at hD
  have HD := Lib.hid hD
  clear hD
  obtain ⟨c0, c1, c2, c3, c4, c5, c6, c7⟩ := h0.out.all
  go_enter Tryd.func14, Tryd.ntmps14
  go_wp2_with fail
  refine (refR_Put_bad t I A B ps c m e f _ ((hs.below h0.out.bel).more h0.out.bel.size) hn hm hr).mono ?_
  rintro r w1 ⟨rfl, hb1⟩
  have hD1 := HD.out.below hb1 HD.out.lt
  have d0 := hD1.cell 0
  have d1 := hD1.cell 1
  have d2 := hD1.cell 2
  have d3 := hD1.cell 3
  have f0 := hD1.frozen 0
  have f1 := hD1.frozen 1
  have f2 := hD1.frozen 2
  have f3 := hD1.frozen 3
  have HB := h0.out.bel.trans (hb1.mono h0.out.bel.size)
  clear c0 c1 c2 c3 c4 c5 c6 c7 hb1
  go_wp2_with fail
  obtain ⟨W4, hW4, hR4, hb4⟩ := hD1.out4 HB (Nat.le_succ _) (.int .u32 0) (.int .u32 0) (.int .u32 0) (.int .u32 0)
  rw [← hW4]
  clear d0 d1 d2 d3 f0 f1 f2 f3 hW4
  have r0 := hR4.cell 0
  have r1 := hR4.cell 1
  have r2 := hR4.cell 2
  have r3 := hR4.cell 3
  refine bodyPost_ret (by simp [results, Tryd.results14, go_sem, r0, r1, r2, r3]; try rfl) rfl ?_
  exact ⟨rfl, hb4⟩
set_option maxHeartbeats 2000000 in
theorem recipe_Of (t : Int) (I : Nat → UInt32) (A B : Option Addr) (ps : List Int) (ds : List (Nat → UInt32)) (c e : Nat) (f : Int) (w : World) (hP : Places w) (hs : Sl w w.heap.size A ps.length (ps.map iv)) (hd : Sd w w.heap.size B ds) (hr : rightR t I ps ds.length f = true) :
    Calls Tryd.prog 13 #[.agg #[.int .i64 t, .int .u32 (I 0).toNat, .int .u32 (I 1).toNat, .int .u32 (I 2).toNat, .int .u32 (I 3).toNat, .slice A ps.length c, .slice B ds.length e, .int .i64 f]] w fun r w' => r = .returned (.tuple #[.agg (dgv (ofRL (bytesR t I ps ds f))), .int .i64 0]) ∧ Below w.heap.size w w' := by
  have h0 := Lib.hid ((Rb.new w t I (.slice A ps.length c) (.slice B ds.length e) f).alloc (.cells #[.int .u32 0, .int .u32 0, .int .u32 0, .int .u32 0] 24))
  have hD := Blk.new (w.alloc (.cells (recv t I (.slice A ps.length c) (.slice B ds.length e) f) 28)) 24 #[.int .u32 0, .int .u32 0, .int .u32 0, .int .u32 0]
  rw [show (w.alloc (.cells (recv t I (.slice A ps.length c) (.slice B ds.length e) f) 28)).heap.size = w.heap.size + 1 by simp] at hD
  have HD := Lib.hid hD
  clear hD
  have HP := Lib.hid hP
  clear hP
  have K1 : Hid (∀ (s : ByteArray) (W : World), s.size ≤ 1000 → Below w.heap.size w W → Calls Tryd.prog 19 #[.string s] W fun e w' => e = .returned (.agg (dgv (ofL s.data.toList))) ∧ Below W.heap.size W w') := fun s W h hb => digest_Of s W (HP.out.below hb HP.out.1) (by omega)
  have K2 : Hid (∀ (a b : Nat → UInt32) (W : World), Below w.heap.size w W → Calls Tryd.prog 20 #[.agg (dgv a), .agg (dgv b)] W fun e w' => e = .returned (.agg (dgv (pairD a b))) ∧ Below W.heap.size W w') := fun a b W hb => digest_Pair a b W (HP.out.below hb HP.out.1)
  have HL : Hid ((bytesR t I ps ds f).length ≤ 900) := by
    obtain ⟨_, _, h1, _, h2⟩ := rr_in hr
    unfold Hid bytesR
    rw [List.length_cons, leBytes_length, wordsR_len]
    omega
  obtain ⟨c0, c1, c2, c3, c4, c5, c6, c7⟩ := h0.out.all
  go_enter Tryd.func13, Tryd.ntmps13
  go_wp2_with fail
  refine (recipe_Put t I A B ps ds c e f _ ((hs.below h0.out.bel).more h0.out.bel.size) ((hd.below h0.out.bel).more h0.out.bel.size) hr).mono ?_
  rintro r w1 ⟨⟨s, rfl, hsl⟩, hb1⟩
  have hsz : s.size ≤ 1000 := by
    have e : s.data.toList.length = s.size := rfl
    have := HL.out
    rw [hsl.out] at e; omega
  have hD1 := Lib.hid (HD.out.below hb1 HD.out.lt)
  have HB := Lib.hid (h0.out.bel.trans (hb1.mono h0.out.bel.size))
  clear c0 c1 c2 c3 c4 c5 c6 c7 hb1 h0 HD
  obtain ⟨D1, hD1e⟩ : ∃ D, ofL s.data.toList = D := ⟨_, rfl⟩
  obtain ⟨D2, hD2e⟩ : ∃ D, ofL nameL = D := ⟨_, rfl⟩
  obtain ⟨D3, hD3e⟩ : ∃ D, pairD D1 D2 = D := ⟨_, rfl⟩
  have HX : Hid (dgv (ofRL (bytesR t I ps ds f)) = dgv D3) := by unfold Hid ofRL; rw [← hsl.out, hD1e, hD2e, hD3e]
  have L1 := fun (W : World) => K1.out s W hsz
  rw [hD1e] at L1
  have L2 := fun (W : World) => K1.out ⟨#[114, 101, 99, 105, 112, 101]⟩ W (by decide)
  have e2 : (⟨#[114, 101, 99, 105, 112, 101]⟩ : ByteArray).data.toList = nameL := rfl
  rw [e2, hD2e] at L2
  have L3 := fun (W : World) => K2.out D1 D2 W
  rw [hD3e] at L3
  have M1 := Lib.hid L1
  have M2 := Lib.hid L2
  have M3 : Hid (∀ W : World, Below w.heap.size w W → Calls Tryd.prog 20 #[.agg (dgv D1), .agg (dgv D2)] W fun e w' => e = .returned (.agg #[.int .u32 (D3 0).toNat, .int .u32 (D3 1).toNat, .int .u32 (D3 2).toNat, .int .u32 (D3 3).toNat]) ∧ Below W.heap.size W w') := L3
  clear L1 L2 L3 e2 hD1e hD2e hD3e K1 K2
  go_wp2_with fail
  refine (M1.out _ HB.out).mono ?_
  rintro r w2 ⟨rfl, hb2⟩
  have hD2 := Lib.hid (hD1.out.below hb2 hD1.out.lt)
  have HB2 := Lib.hid (HB.out.trans (hb2.mono HB.out.size))
  clear hD1 HB hb2
  go_wp2_with fail
  refine (M2.out _ HB2.out).mono ?_
  rintro r w3 ⟨rfl, hb3⟩
  have hD3 := Lib.hid (hD2.out.below hb3 hD2.out.lt)
  have HB3 := Lib.hid (HB2.out.trans (hb3.mono HB2.out.size))
  clear hD2 HB2 hb3
  go_wp2_with fail
  refine (M3.out _ HB3.out).mono ?_
  rintro r w4 ⟨rfl, hb4⟩
  have hD4 := hD3.out.below hb4 hD3.out.lt
  have HB4 := HB3.out.trans (hb4.mono HB3.out.size)
  clear hD3 HB3 hb4
  have d0 := hD4.cell 0
  have d1 := hD4.cell 1
  have d2 := hD4.cell 2
  have d3 := hD4.cell 3
  have f0 := hD4.frozen 0
  have f1 := hD4.frozen 1
  have f2 := hD4.frozen 2
  have f3 := hD4.frozen 3
  go_wp2_with fail
  obtain ⟨W4, hW4, hR4, hb4⟩ := hD4.out4 HB4 (Nat.le_succ _) (.int .u32 (D3 0).toNat) (.int .u32 (D3 1).toNat) (.int .u32 (D3 2).toNat) (.int .u32 (D3 3).toNat)
  rw [← hW4]
  clear d0 d1 d2 d3 f0 f1 f2 f3 hW4
  have r0 := hR4.cell 0
  have r1 := hR4.cell 1
  have r2 := hR4.cell 2
  have r3 := hR4.cell 3
  refine bodyPost_ret (by simp [results, Tryd.results13, go_sem, r0, r1, r2, r3]; try rfl) rfl ?_
  rw [HX.out]
  exact ⟨rfl, hb4⟩
set_option maxHeartbeats 2000000 in
theorem refR_Of (t : Int) (I : Nat → UInt32) (A B : Option Addr) (ps : List Int) (ds : List (Nat → UInt32)) (c e : Nat) (f : Int) (w : World) (hs : Sl w w.heap.size A ps.length (ps.map iv)) (hd : Sd w w.heap.size B ds) (hr : rightR t I ps ds.length f = true) :
    Calls Tryd.prog 14 #[.agg #[.int .i64 t, .int .u32 (I 0).toNat, .int .u32 (I 1).toNat, .int .u32 (I 2).toNat, .int .u32 (I 3).toNat, .slice A ps.length c, .slice B ds.length e, .int .i64 f]] w fun r w' => r = .returned (.tuple #[.agg (dgv (ofRL (bytesR t I ps ds f))), .int .i64 0]) ∧ Below w.heap.size w w' := by
  have h0 := Lib.hid ((Rb.new w t I (.slice A ps.length c) (.slice B ds.length e) f).alloc (.cells #[.int .u32 0, .int .u32 0, .int .u32 0, .int .u32 0] 24))
  have hD := Blk.new (w.alloc (.cells (recv t I (.slice A ps.length c) (.slice B ds.length e) f) 28)) 24 #[.int .u32 0, .int .u32 0, .int .u32 0, .int .u32 0]
  rw [show (w.alloc (.cells (recv t I (.slice A ps.length c) (.slice B ds.length e) f) 28)).heap.size = w.heap.size + 1 by simp] at hD
  have HD := Lib.hid hD
  clear hD
  have K1 : Hid (∀ (s : ByteArray) (W : World), s.size ≤ 1000 → Calls Tryd.prog 28 #[.string s] W fun e w' => e = .returned (.agg (dgv (ofL s.data.toList))) ∧ Below W.heap.size W w') := fun s W h => ref_Of s W (by omega)
  have K2 : Hid (∀ (a b : Nat → UInt32) (W : World), Calls Tryd.prog 27 #[.agg (dgv a), .agg (dgv b)] W fun e w' => e = .returned (.agg (dgv (pairD a b))) ∧ Below W.heap.size W w') := fun a b W => ref_Pair a b W
  have HL : Hid ((bytesR t I ps ds f).length ≤ 900) := by
    obtain ⟨_, _, h1, _, h2⟩ := rr_in hr
    unfold Hid bytesR
    rw [List.length_cons, leBytes_length, wordsR_len]
    omega
  obtain ⟨c0, c1, c2, c3, c4, c5, c6, c7⟩ := h0.out.all
  go_enter Tryd.func14, Tryd.ntmps14
  go_wp2_with fail
  refine (refR_Put t I A B ps ds c e f _ ((hs.below h0.out.bel).more h0.out.bel.size) ((hd.below h0.out.bel).more h0.out.bel.size) hr).mono ?_
  rintro r w1 ⟨⟨s, rfl, hsl⟩, hb1⟩
  have hsz : s.size ≤ 1000 := by
    have e : s.data.toList.length = s.size := rfl
    have := HL.out
    rw [hsl.out] at e; omega
  have hD1 := Lib.hid (HD.out.below hb1 HD.out.lt)
  have HB := Lib.hid (h0.out.bel.trans (hb1.mono h0.out.bel.size))
  clear c0 c1 c2 c3 c4 c5 c6 c7 hb1 h0 HD
  obtain ⟨D1, hD1e⟩ : ∃ D, ofL s.data.toList = D := ⟨_, rfl⟩
  obtain ⟨D2, hD2e⟩ : ∃ D, ofL nameL = D := ⟨_, rfl⟩
  obtain ⟨D3, hD3e⟩ : ∃ D, pairD D1 D2 = D := ⟨_, rfl⟩
  have HX : Hid (dgv (ofRL (bytesR t I ps ds f)) = dgv D3) := by unfold Hid ofRL; rw [← hsl.out, hD1e, hD2e, hD3e]
  have L1 := fun (W : World) => K1.out s W hsz
  rw [hD1e] at L1
  have L2 := fun (W : World) => K1.out ⟨#[114, 101, 99, 105, 112, 101]⟩ W (by decide)
  have e2 : (⟨#[114, 101, 99, 105, 112, 101]⟩ : ByteArray).data.toList = nameL := rfl
  rw [e2, hD2e] at L2
  have L3 := fun (W : World) => K2.out D1 D2 W
  rw [hD3e] at L3
  have M1 := Lib.hid L1
  have M2 := Lib.hid L2
  have M3 : Hid (∀ W : World, Calls Tryd.prog 27 #[.agg (dgv D1), .agg (dgv D2)] W fun e w' => e = .returned (.agg #[.int .u32 (D3 0).toNat, .int .u32 (D3 1).toNat, .int .u32 (D3 2).toNat, .int .u32 (D3 3).toNat]) ∧ Below W.heap.size W w') := L3
  clear L1 L2 L3 e2 hD1e hD2e hD3e K1 K2
  go_wp2_with fail
  refine (M1.out _).mono ?_
  rintro r w2 ⟨rfl, hb2⟩
  have hD2 := Lib.hid (hD1.out.below hb2 hD1.out.lt)
  have HB2 := Lib.hid (HB.out.trans (hb2.mono HB.out.size))
  clear hD1 HB hb2
  go_wp2_with fail
  refine (M2.out _).mono ?_
  rintro r w3 ⟨rfl, hb3⟩
  have hD3 := Lib.hid (hD2.out.below hb3 hD2.out.lt)
  have HB3 := Lib.hid (HB2.out.trans (hb3.mono HB2.out.size))
  clear hD2 HB2 hb3
  go_wp2_with fail
  refine (M3.out _).mono ?_
  rintro r w4 ⟨rfl, hb4⟩
  have hD4 := hD3.out.below hb4 hD3.out.lt
  have HB4 := HB3.out.trans (hb4.mono HB3.out.size)
  clear hD3 HB3 hb4
  have d0 := hD4.cell 0
  have d1 := hD4.cell 1
  have d2 := hD4.cell 2
  have d3 := hD4.cell 3
  have f0 := hD4.frozen 0
  have f1 := hD4.frozen 1
  have f2 := hD4.frozen 2
  have f3 := hD4.frozen 3
  go_wp2_with fail
  obtain ⟨W4, hW4, hR4, hb4⟩ := hD4.out4 HB4 (Nat.le_succ _) (.int .u32 (D3 0).toNat) (.int .u32 (D3 1).toNat) (.int .u32 (D3 2).toNat) (.int .u32 (D3 3).toNat)
  rw [← hW4]
  clear d0 d1 d2 d3 f0 f1 f2 f3 hW4
  have r0 := hR4.cell 0
  have r1 := hR4.cell 1
  have r2 := hR4.cell 2
  have r3 := hR4.cell 3
  refine bodyPost_ret (by simp [results, Tryd.results14, go_sem, r0, r1, r2, r3]; try rfl) rfl ?_
  rw [HX.out]
  exact ⟨rfl, hb4⟩
end Go.Proofs.YtdkkomcokefkhaaDoor
