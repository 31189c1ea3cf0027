/- Layer 37: a recipe's words and bytes; the document's answer, walked. -/
/- Layer 37: a recipe's bytes, by the document; walked. -/
import Derived.Test.YtdkkomcokefkhaaDoorRcH
import Derived.Test.YtdkkomcokefkhaaDoorRefE
namespace Go.Proofs.YtdkkomcokefkhaaDoor
open Go.RowKit

theorem own_lit (W : World) (E : TypeId) (B : Nat) (hB : B ≤ W.heap.size) (cs : Array Value) (hm : cs.size ≤ 1000000) {g n : Nat} (hg : g = W.heap.size) (hn : n = cs.size) {xs : List Value} (hx : cs.toList = xs) : (W.alloc (.cells cs E)).ownsRow B E 1 (.slice (some ⟨g, 0, none⟩) n n) n xs := by
  subst hg hn hx
  exact ⟨by simp, .inr ⟨W.heap.size, cs.size, cs, rfl, hB, heap_alloc_new W _, Nat.le_refl _, by unfold maxLen; omega, by simp, by rw [List.take_of_length_le (by simp)]⟩⟩

set_option maxHeartbeats 4000000 in
theorem refR_Words (t : Int) (I : Nat → UInt32) (A B : Option Addr) (ps : List Int) (ds : List (Nat → UInt32)) (c e : Nat) (f : Int) (w : World) (hs : Sl w w.heap.size A ps.length (ps.map iv)) (hd : Sd w w.heap.size B ds) (hr : rightR t I ps ds.length f = true) :
    Calls Tryd.prog 26 #[.agg #[.int .i64 t, .int .u32 (I 0).toNat, .int .u32 (I 1).toNat, .int .u32 (I 2).toNat, .int .u32 (I 3).toNat, .slice A ps.length c, .slice B ds.length e, .int .i64 f]] w fun r w' => (∃ v, r = .returned v ∧ w'.ownsRow w.heap.size 22 1 v (wordsR t I ps ds f).length ((wordsR t I ps ds f).map wv)) ∧ Below w.heap.size w w' := by
  obtain ⟨⟨t1, t6⟩, ⟨f0, f8⟩, hp20, hpa, hm20⟩ := rr_in hr
  have h0 := Rb.new w t I (.slice A ps.length c) (.slice B ds.length e) f
  obtain ⟨c0, c1, c2, c3, c4, c5, c6, c7⟩ := h0.all
  have HPA := Lib.hid hpa
  have e1 : Value.int .u32 t = wv (wI t) := by unfold wv; rw [wI_val (by omega) (by omega)]
  have e2 : Value.int .u32 f = wv (wI f) := by unfold wv; rw [wI_val (by omega) (by omega)]
  have e3 : Value.int .u32 (ps.length : Int) = wv (UInt32.ofNat ps.length) := by unfold wv; rw [UInt32.toNat_ofNat']; congr 1; omega
  have e4 : Value.int .u32 (ds.length : Int) = wv (UInt32.ofNat ds.length) := by unfold wv; rw [UInt32.toNat_ofNat']; congr 1; omega
  have E1 := Lib.hid e1
  have E2 := Lib.hid e2
  have E3 := Lib.hid e3
  have E4 := Lib.hid e4
  have H0 := Lib.hid h0
  clear hpa hr h0 e1 e2 e3 e4
  go_enter Tryd.func26, Tryd.ntmps26
  go_wp2_with fail
  clear c0 c1 c2 c3 c4 c5 c6 c7
  have hsz : w.heap.size + 1 ≤ (w.alloc (.cells (recv t I (.slice A ps.length c) (.slice B ds.length e) f) 28)).heap.size := by simp
  go_loopw [3, 4] (fun v i wr => ∃ k : Nat, k ≤ ps.length ∧ i = .int .i64 k ∧ Hid (Rb w t I (.slice A ps.length c) (.slice B ds.length e) f wr) ∧ wr.ownsRow (w.heap.size + 1) 22 1 v (7 + k) ((headR t I ps.length f ++ (ps.take k).map wI).map wv)) (fun _ i _ => ps.length - (intOf i).toNat)
  case atStart =>
    refine ⟨0, Nat.zero_le _, rfl, H0.out.alloc _, own_lit _ _ _ hsz _ (by simp) (by simp) rfl ?_⟩
    rw [E1.out, E2.out, E3.out]
    rfl
  case round =>
    clear H0 hsz
    obtain ⟨k, hk, rfl, hR, hown⟩ := hrel
    obtain ⟨c0, c1, c2, c3, c4, c5, c6, c7⟩ := hR.out.all
    have hlw : w.heap.size + 1 ≤ wr.heap.size := hR.out.x.lt
    by_cases hlt : k < ps.length
    · obtain ⟨b, off, rfl, hb, hc1⟩ := (hs.below hR.out.bel).int hlt
      have hpk := HPA.out ps[k] (List.getElem_mem hlt)
      have HN : Hid ((headR t I ps.length f ++ (ps.take (k + 1)).map wI).map wv = (headR t I ps.length f ++ (ps.take k).map wI).map wv ++ [wv (wI ps[k])]) := by unfold Hid; rw [take_map_snoc wI ps k hlt, ← List.append_assoc, List.map_append]; rfl
      have E5 : Hid (Value.int .u32 ps[k] = wv (wI ps[k])) := by unfold Hid wv; rw [wI_val (by omega) (by omega)]
      obtain ⟨pk, hpkk⟩ : ∃ pk, ps[k] = pk := ⟨_, rfl⟩
      rw [hpkk] at hpk E5 HN hc1
      have HK := Lib.hid hpkk
      obtain ⟨hp1, hp4⟩ := hpk
      clear hpkk
      go_wp2_with (at_builtin; refine wpList_append_new rfl _ _ 46 rfl (w.heap.size + 1) (.int .u32 0) 1 4 Tryd.underlying46 info_u32 rfl (by decide) _ (7 + k) _ rfl hown 1 rfl rfl (by simp [Value.oneCell']) (by omega) (by omega) hlw ?_; intro v1 w1 hown1 hb1 _)
      have hR6 := Lib.hid (hR.out.under hb1 (Nat.lt_succ_self _))
      replace hown1 : w1.ownsRow (w.heap.size + 1) 22 1 v1 (7 + k + 1) ((headR t I ps.length f ++ (ps.take (k + 1)).map wI).map wv) := by rw [HN.out, ← E5.out]; exact hown1
      clear c0 c1 c2 c3 c4 c5 c6 c7 hown hb1 hR hc1
      go_wp2_with fail
      go_roundw
      case rel => exact ⟨k + 1, hlt, by go_num, hR6, hown1⟩
      case measure => simp [intOf]; omega
    · obtain rfl : k = ps.length := by omega
      rw [List.take_length] at hown
      obtain ⟨pre, hpre⟩ : ∃ pre, headR t I ps.length f ++ ps.map wI ++ [UInt32.ofNat ds.length] = pre := ⟨_, rfl⟩
      have HPl : pre.length = 8 + ps.length := by rw [← hpre]; simp only [List.length_append, List.length_map]; show 7 + _ + 1 = _; omega
      have HPR : Hid (pre.map wv = (headR t I ps.length f ++ ps.map wI).map wv ++ [wv (UInt32.ofNat ds.length)]) := by unfold Hid; rw [← hpre, List.map_append]; rfl
      have HPL := Lib.hid HPl
      have HPRE := Lib.hid hpre
      clear hpre HPl
      go_wp2_with (at_builtin; refine wpList_append_new rfl _ _ 46 rfl (w.heap.size + 1) (.int .u32 0) 1 4 Tryd.underlying46 info_u32 rfl (by decide) _ (7 + ps.length) _ rfl hown 1 rfl rfl (by simp [Value.oneCell']) (by omega) (by omega) hlw ?_; intro v1 w1 hown1 hb1 _)
      have hR6 := Lib.hid (hR.out.under hb1 (Nat.lt_succ_self _))
      replace hown1 : w1.ownsRow (w.heap.size + 1) 22 1 v1 (7 + ps.length + 1) (pre.map wv) := by rw [HPR.out, ← E4.out]; exact hown1
      clear c0 c1 c2 c3 c4 c5 c6 c7 hown hb1 hR
      go_wp2_with fail
      go_loopw [3, 5] (fun v i wr => ∃ k : Nat, k ≤ ds.length ∧ i = .int .i64 k ∧ Hid (Rb w t I (.slice A ps.length c) (.slice B ds.length e) f wr) ∧ wr.ownsRow (w.heap.size + 1) 22 1 v (8 + ps.length + 4 * k) ((pre ++ (ds.take k).flatMap dgL).map wv)) (fun _ i _ => ds.length - (intOf i).toNat)
      case atStart => 
        refine ⟨0, Nat.zero_le _, rfl, hR6, ?_⟩
        rw [List.take_zero, List.flatMap_nil, List.append_nil, Nat.mul_zero, Nat.add_zero, show 8 + ps.length = 7 + ps.length + 1 by omega]
        exact hown1
      case round =>
        clear hR6 hown1
        obtain ⟨k, hk, rfl, hR, hown⟩ := hrel
        obtain ⟨c0, c1, c2, c3, c4, c5, c6, c7⟩ := hR.out.all
        have hlw : w.heap.size + 1 ≤ wr.heap.size := hR.out.x.lt
        by_cases hlt : k < ds.length
        · obtain ⟨b, off, rfl, hb, hc1⟩ := (hd.below hR.out.bel) (by omega)
          have HN : Hid ((pre ++ (ds.take (k + 1)).flatMap dgL).map wv = (pre ++ (ds.take k).flatMap dgL).map wv ++ [wv (ds[k] 0), wv (ds[k] 1), wv (ds[k] 2), wv (ds[k] 3)]) := by unfold Hid; rw [flat_snoc ds k hlt, ← List.append_assoc, List.map_append]; rfl
          obtain ⟨p0, p1, p2, p3⟩ := dcell (hc1 k hlt)
          obtain ⟨dk, hdk⟩ : ∃ dk, ds[k] = dk := ⟨_, rfl⟩
          rw [hdk] at p0 p1 p2 p3 HN
          have HK := Lib.hid hdk
          have m1 : k * 4 = 4 * k := Nat.mul_comm k 4
          clear hdk hc1
          have hownA := hown.alloc (.cells #[.int .u32 (dk 0).toNat, .int .u32 (dk 1).toNat, .int .u32 (dk 2).toNat, .int .u32 (dk 3).toNat] 24)
          have hR' := hR.out.alloc (.cells #[.int .u32 (dk 0).toNat, .int .u32 (dk 1).toNat, .int .u32 (dk 2).toNat, .int .u32 (dk 3).toNat] 24)
          have hszA : (wr.alloc (.cells #[.int .u32 (dk 0).toNat, .int .u32 (dk 1).toNat, .int .u32 (dk 2).toNat, .int .u32 (dk 3).toNat] 24)).heap.size = wr.heap.size + 1 := by simp
          have HR' := Lib.hid hR'
          clear hR'
          go_wp2_with (at_builtin; refine wpList_append_new rfl _ _ 46 rfl (w.heap.size + 1) (.int .u32 0) 1 4 Tryd.underlying46 info_u32 rfl (by decide) _ (8 + ps.length + 4 * k) _ rfl hownA 4 (by rw [hszA]; rfl) rfl (by simp [Value.oneCell']) (by omega) (by omega) (by simp; omega) ?_; intro v1 w1 hown1 hb1 _)
          have hR6 := Lib.hid (HR'.out.under hb1 (Nat.lt_succ_self _))
          replace hown1 : w1.ownsRow (w.heap.size + 1) 22 1 v1 (8 + ps.length + 4 * k + 4) ((pre ++ (ds.take (k + 1)).flatMap dgL).map wv) := by rw [HN.out]; exact hown1
          clear c0 c1 c2 c3 c4 c5 c6 c7 hown hownA hb1 hR HR' p0 p1 p2 p3
          go_wp2_with fail
          go_roundw
          case rel => exact ⟨k + 1, hlt, by go_num, hR6, hown1⟩
          case measure => simp [intOf]; omega
        · obtain rfl : k = ds.length := by omega
          rw [List.take_length, show pre ++ ds.flatMap dgL = wordsR t I ps ds f by rw [← HPRE.out]; rfl] at hown
          have hwl := wordsR_len t I ps ds f
          rw [← hwl] at hown
          have HO := Lib.hid (own_base hown (Nat.le_succ w.heap.size))
          clear hwl hown
          go_wp2_with fail
          go_returns
          exact ⟨⟨_, rfl, HO.out⟩, hR.out.bel⟩
end Go.Proofs.YtdkkomcokefkhaaDoor
namespace Go.Proofs.YtdkkomcokefkhaaDoor
open Go.RowKit

theorem refR_Put_bad (t : Int) (I : Nat → UInt32) (A B : Option Addr) (ps : List Int) (c m e : Nat) (f : Int) (w : World) (hs : Sl w w.heap.size A ps.length (ps.map iv)) (hn : ps.length ≤ 1000000000000) (hm : m ≤ 1000000000000) (hr : rightR t I ps m f = false) :
    Calls Tryd.prog 12 #[.agg #[.int .i64 t, .int .u32 (I 0).toNat, .int .u32 (I 1).toNat, .int .u32 (I 2).toNat, .int .u32 (I 3).toNat, .slice A ps.length c, .slice B m e, .int .i64 f]] w fun r w' => r = .returned (.tuple #[.string ⟨#[]⟩, .int .i64 1]) ∧ Below w.heap.size w w' := by
  have h0 := Rb.new w t I (.slice A ps.length c) (.slice B m e) f
  obtain ⟨c0, c1, c2, c3, c4, c5, c6, c7⟩ := h0.all
  go_enter Tryd.func12, Tryd.ntmps12
  go_wp2_with fail
  refine (refR_Right t I A B ps c m e f _ ((hs.below h0.bel).more h0.bel.size) hn hm).mono ?_
  rintro r w1 ⟨rfl, hb1⟩
  go_wp2_with fail
  go_returns
  exact ⟨rfl, h0.bel.trans (hb1.mono h0.bel.size)⟩

set_option maxHeartbeats 1000000 in
theorem refR_Put (t : Int) (I : Nat → UInt32) (A B : Option Addr) (ps : List Int) (ds : List (Nat → UInt32)) (c e : Nat) (f : Int) (w : World) (hs : Sl w w.heap.size A ps.length (ps.map iv)) (hd : Sd w w.heap.size B ds) (hr : rightR t I ps ds.length f = true) :
    Calls Tryd.prog 12 #[.agg #[.int .i64 t, .int .u32 (I 0).toNat, .int .u32 (I 1).toNat, .int .u32 (I 2).toNat, .int .u32 (I 3).toNat, .slice A ps.length c, .slice B ds.length e, .int .i64 f]] w fun r w' => (∃ s, r = .returned (.tuple #[.string s, .int .i64 0]) ∧ Hid (s.data.toList = bytesR t I ps ds f)) ∧ Below w.heap.size w w' := by
  obtain ⟨_, _, hp20, _, hm20⟩ := rr_in hr
  have h0 := Rb.new w t I (.slice A ps.length c) (.slice B ds.length e) f
  obtain ⟨c0, c1, c2, c3, c4, c5, c6, c7⟩ := h0.all
  obtain ⟨ws, hws⟩ : ∃ ws, wordsR t I ps ds f = ws := ⟨_, rfl⟩
  have hwl : ws.length ≤ 200 := by rw [← hws, wordsR_len]; omega
  have HWS := Lib.hid hws
  have H0 := Lib.hid h0
  go_enter Tryd.func12, Tryd.ntmps12
  go_wp2_with fail
  refine (refR_Right t I A B ps c ds.length e f _ ((hs.below h0.bel).more h0.bel.size) (by omega) (by omega)).mono ?_
  rintro r w1 ⟨rfl, hb1⟩
  have hR1 := Lib.hid (H0.out.below hb1)
  clear c0 c1 c2 c3 c4 c5 c6 c7 hb1 h0 H0 hws
  obtain ⟨c0, c1, c2, c3, c4, c5, c6, c7⟩ := hR1.out.all
  go_wp2_with fail
  refine (refR_Words t I A B ps ds c e f _ ((hs.below hR1.out.bel).more hR1.out.bel.size) ((hd.below hR1.out.bel).more hR1.out.bel.size) hr).mono ?_
  rintro r w2 ⟨⟨v, rfl, hown⟩, hb2⟩
  rw [HWS.out] at hown
  have hB2 := Lib.hid (hR1.out.bel.trans (hb2.mono hR1.out.bel.size))
  obtain ⟨n, hn⟩ : ∃ n, ws.length = n := ⟨_, rfl⟩
  rw [hn] at hown hwl
  have HNL := Lib.hid hn
  obtain ⟨A1, c1', rfl, hc1', hc2', hS⟩ := Sl.of_own hown
  clear hn hc2' hb2 c0 c1 c2 c3 c4 c5 c6 c7
  go_wp2_with fail
  refine (ref_Bytes ws A1 n c1' _ hS (by omega)).mono ?_
  rintro r w6 ⟨⟨s, rfl, hs6⟩, hb6⟩
  have hsz : s.size ≤ 800 := by
    have e : s.data.toList.length = s.size := rfl
    rw [hs6.out, leBytes_length, HNL.out] at e; omega
  have hq : ¬ 9223372036854775807 < (⟨#[82]⟩ : ByteArray).size + s.size := by show ¬ _ < 1 + _; omega
  go_wp2_with fail
  go_returns
  exact ⟨⟨_, rfl, by unfold Hid bytesR; rw [ba_append, hs6.out, HWS.out]; rfl⟩, hB2.out.trans (hb6.mono hB2.out.size)⟩
end Go.Proofs.YtdkkomcokefkhaaDoor
