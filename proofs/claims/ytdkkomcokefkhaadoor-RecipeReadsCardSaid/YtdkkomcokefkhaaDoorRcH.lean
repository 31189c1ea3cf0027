/- Layer 37: a recipe's bytes; the program's answer, walked. -/
import Derived.Test.YtdkkomcokefkhaaDoorRcP
import Derived.Test.YtdkkomcokefkhaaDoorRcF
import Derived.Test.YtdkkomcokefkhaaDoorWord
namespace Go.Proofs.YtdkkomcokefkhaaDoor
open Go.RowKit

theorem recipe_Put_bad (t : Int) (I : Nat → UInt32) (A B : Option Addr) (ps : List Int) (c m e : Nat) (f : Int) (w : World) (hs : Sl w w.heap.size A ps.length (ps.map iv)) (hn : ps.length ≤ 1000000000000) (hm : m ≤ 1000000000000) (hr : rightR t I ps m f = false) :
    Calls Tryd.prog 11 #[.agg #[.int .i64 t, .int .u32 (I 0).toNat, .int .u32 (I 1).toNat, .int .u32 (I 2).toNat, .int .u32 (I 3).toNat, .slice A ps.length c, .slice B m e, .int .i64 f]] w fun r w' => r = .returned (.tuple #[.string ⟨#[]⟩, .int .i64 1]) ∧ Below w.heap.size w w' := by
  have h0 := Rb.new w t I (.slice A ps.length c) (.slice B m e) f
  obtain ⟨c0, c1, c2, c3, c4, c5, c6, c7⟩ := h0.all
  go_enter Tryd.func11, Tryd.ntmps11
  go_wp2_with fail
  refine (recipe_Right t I A B ps c m e f _ ((hs.below h0.bel).more h0.bel.size) hn hm).mono ?_
  rintro r w1 ⟨rfl, hb1⟩
  go_wp2_with fail
  go_returns
  exact ⟨rfl, h0.bel.trans (hb1.mono h0.bel.size)⟩

theorem Gt.alloc {w : World} {L : Nat} {ws : List UInt32} (h : Gt w L ws) (o : Obj) : Gt (w.alloc o) L ws := h.below ((Below.refl _ w).alloc (Nat.le_refl _) o)
theorem Rb.under {w W W' : World} {t f : Int} {I : Nat → UInt32} {p i : Value} {L : Nat} (h : Rb w t I p i f W) (hb : Below L W W') (hL : w.heap.size < L) : Rb w t I p i f W' := ⟨h.x.below hb hL, h.bel.trans (hb.mono (Nat.le_of_lt hL))⟩
set_option maxHeartbeats 4000000 in
theorem recipe_Put (t : Int) (I : Nat → UInt32) (A B : Option Addr) (ps : List Int) (ds : List (Nat → UInt32)) (c e : Nat) (f : Int) (w : World) (hs : Sl w w.heap.size A ps.length (ps.map iv)) (hd : Sd w w.heap.size B ds) (hr : rightR t I ps ds.length f = true) :
    Calls Tryd.prog 11 #[.agg #[.int .i64 t, .int .u32 (I 0).toNat, .int .u32 (I 1).toNat, .int .u32 (I 2).toNat, .int .u32 (I 3).toNat, .slice A ps.length c, .slice B ds.length e, .int .i64 f]] w fun r w' => (∃ s, r = .returned (.tuple #[.string s, .int .i64 0]) ∧ Hid (s.data.toList = bytesR t I ps ds f)) ∧ Below w.heap.size w w' := by
  obtain ⟨⟨t1, t6⟩, ⟨f0, f8⟩, hp20, hpa, hm20⟩ := rr_in hr
  have h0 := Rb.new w t I (.slice A ps.length c) (.slice B ds.length e) f
  obtain ⟨c0, c1, c2, c3, c4, c5, c6, c7⟩ := h0.all
  have HPA := Lib.hid hpa
  clear hpa
  go_enter Tryd.func11, Tryd.ntmps11
  go_wp2_with fail
  refine (recipe_Right t I A B ps c ds.length e f _ ((hs.below h0.bel).more h0.bel.size) (by omega) (by omega)).mono ?_
  rintro r w1 ⟨rfl, hb1⟩
  have hR1 := h0.below hb1
  clear c0 c1 c2 c3 c4 c5 c6 c7 hb1
  have hL : w.heap.size < w1.heap.size := hR1.x.lt
  have hR2 := Lib.hid (hR1.alloc (.cells #[.slice none 0 0] 46))
  have hG2 := Gt.new w1
  obtain ⟨c0, c1, c2, c3, c4, c5, c6, c7⟩ := hR2.out.all
  have e1 : Value.int .u32 t = wv (wI t) := by unfold wv; rw [wI_val (by omega) (by omega)]
  have e2 : Value.int .u32 f = wv (wI f) := by unfold wv; rw [wI_val (by omega) (by omega)]
  have e3 : Value.int .u32 (ps.length : Int) = wv (UInt32.ofNat ps.length) := by unfold wv; rw [UInt32.toNat_ofNat']; congr 1; omega
  have e4 : Value.int .u32 (ds.length : Int) = wv (UInt32.ofNat ds.length) := by unfold wv; rw [UInt32.toNat_ofNat']; congr 1; omega
  have E1 := Lib.hid e1
  have E2 := Lib.hid e2
  have E3 := Lib.hid e3
  have E4 := Lib.hid e4
  clear hR1 h0 e1 e2 e3 e4
  go_wp2_with fail
  refine (gather_any w1.heap.size [] [wI t] _ 1 _ (hG2.alloc _) ?_ (show 0 + 1 ≤ 1000000 by decide)).mono ?_
  · refine sl_words (by simp) ?_; rw [E1.out]; rfl
  rintro r w2 ⟨rfl, hG3, hb3⟩
  have hR3 := Lib.hid ((hR2.out.alloc _).under hb3 hL)
  clear c0 c1 c2 c3 c4 c5 c6 c7 hG2 hb3 hR2
  obtain ⟨c0, c1, c2, c3, c4, c5, c6, c7⟩ := hR3.out.all
  go_wp2_with fail
  refine (gather_any w1.heap.size _ (dgL I) _ 4 _ hG3 (sl_dig hR3.out.x.lt c1 c2 c3 c4) (show 0 + 1 + 4 ≤ 1000000 by decide)).mono ?_
  rintro r w3 ⟨rfl, hG4, hb4⟩
  have hR4 := Lib.hid (hR3.out.under hb4 hL)
  clear c0 c1 c2 c3 c4 c5 c6 c7 hG3 hb4 hR3
  obtain ⟨c0, c1, c2, c3, c4, c5, c6, c7⟩ := hR4.out.all
  go_wp2_with fail
  refine (gather_any w1.heap.size _ [wI f, UInt32.ofNat ps.length] _ 2 _ (hG4.alloc _) ?_ (show 0 + 1 + 4 + 2 ≤ 1000000 by decide)).mono ?_
  · refine sl_words (by simp) ?_; rw [E2.out, E3.out]; rfl
  rintro r w5 ⟨rfl, hG5, hb5⟩
  have hR5 := Lib.hid ((hR4.out.alloc _).under hb5 hL)
  clear c0 c1 c2 c3 c4 c5 c6 c7 hG4 hb5 hR4
  obtain ⟨c0, c1, c2, c3, c4, c5, c6, c7⟩ := hR5.out.all
  have hG5' : Gt w5 w1.heap.size (headR t I ps.length f) := hG5
  clear hG5
  go_wp2_with fail
  clear c0 c1 c2 c3 c4 c5 c6 c7
  go_loopw [37] (fun i wr => ∃ k : Nat, k ≤ ps.length ∧ i = .int .i64 k ∧ Hid (Rb w t I (.slice A ps.length c) (.slice B ds.length e) f wr) ∧ Gt wr w1.heap.size (headR t I ps.length f ++ (ps.take k).map wI)) (fun i _ => ps.length - (intOf i).toNat)
  case atStart => exact ⟨0, Nat.zero_le _, rfl, hR5, by simpa using hG5'⟩
  case round =>
    clear hR5 hG5'
    obtain ⟨k, hk, rfl, hR, hG⟩ := hrel
    obtain ⟨c0, c1, c2, c3, c4, c5, c6, c7⟩ := hR.out.all
    by_cases hlt : k < ps.length
    · obtain ⟨b, off, rfl, hb, hc1⟩ := (hs.below hR.out.bel).int hlt
      have hpk := HPA.out ps[k] (List.getElem_mem hlt)
      have HN : Hid (headR t I ps.length f ++ (ps.take (k + 1)).map wI = headR t I ps.length f ++ (ps.take k).map wI ++ [wI ps[k]]) := by unfold Hid; rw [take_map_snoc wI ps k hlt, List.append_assoc]
      have HLn : (headR t I ps.length f ++ (ps.take k).map wI).length ≤ 100 := by
        rw [List.length_append, List.length_map, List.length_take]; show 7 + _ ≤ _; omega
      have E5 : Hid (Value.int .u32 ps[k] = wv (wI ps[k])) := by unfold Hid wv; rw [wI_val (by omega) (by omega)]
      obtain ⟨pk, hpkk⟩ : ∃ pk, ps[k] = pk := ⟨_, rfl⟩
      rw [hpkk] at hpk E5 HN hc1
      have HK := Lib.hid hpkk
      obtain ⟨hp1, hp4⟩ := hpk
      clear hpkk
      go_wp2_with fail
      refine (gather_any w1.heap.size _ [wI pk] _ 1 _ (hG.alloc _) ?_ (show _ + 1 ≤ 1000000 by omega)).mono ?_
      · refine sl_words rfl ?_; rw [E5.out]; rfl
      rintro r w6 ⟨rfl, hG6, hb6⟩
      have hR6 := Lib.hid ((hR.out.alloc _).under hb6 hL)
      clear c0 c1 c2 c3 c4 c5 c6 c7 hG hb6 hR hc1
      rw [← HN.out] at hG6
      go_wp2_with fail
      go_roundw
      case rel => exact ⟨k + 1, hlt, rfl, hR6, hG6⟩
      case measure => simp [intOf]; omega
    · obtain rfl : k = ps.length := by omega
      rw [List.take_length] at hG
      have HLn : (headR t I ps.length f ++ ps.map wI).length ≤ 100 := by
        rw [List.length_append, List.length_map]; show 7 + _ ≤ _; omega
      go_wp2_with fail
      refine (gather_any w1.heap.size _ [UInt32.ofNat ds.length] _ 1 _ (hG.alloc _) ?_ (show _ + 1 ≤ 1000000 by omega)).mono ?_
      · refine sl_words rfl ?_; rw [E4.out]; rfl
      rintro r w6 ⟨rfl, hG6, hb6⟩
      have hR6 := Lib.hid ((hR.out.alloc _).under hb6 hL)
      clear c0 c1 c2 c3 c4 c5 c6 c7 hG hb6 hR
      obtain ⟨c0, c1, c2, c3, c4, c5, c6, c7⟩ := hR6.out.all
      obtain ⟨pre, hpre⟩ : ∃ pre, headR t I ps.length f ++ ps.map wI ++ [UInt32.ofNat ds.length] = pre := ⟨_, rfl⟩
      have HPl : pre.length ≤ 101 := by rw [← hpre, List.length_append]; simp only [List.length_cons, List.length_nil]; omega
      rw [hpre] at hG6
      have HPRE := Lib.hid hpre
      clear hpre
      go_wp2_with fail
      clear c0 c1 c2 c3 c4 c5 c6 c7
      go_loopw [57] (fun i wr => ∃ k : Nat, k ≤ ds.length ∧ i = .int .i64 k ∧ Hid (Rb w t I (.slice A ps.length c) (.slice B ds.length e) f wr) ∧ Gt wr w1.heap.size (pre ++ (ds.take k).flatMap dgL)) (fun i _ => ds.length - (intOf i).toNat)
      case atStart => exact ⟨0, Nat.zero_le _, rfl, hR6, by simpa using hG6⟩
      case round =>
        clear hR6 hG6
        obtain ⟨k, hk, rfl, hR, hG⟩ := hrel
        obtain ⟨c0, c1, c2, c3, c4, c5, c6, c7⟩ := hR.out.all
        have HFl : (pre ++ (ds.take k).flatMap dgL).length ≤ 200 := by
          rw [List.length_append, flat_len, List.length_take]; omega
        by_cases hlt : k < ds.length
        · obtain ⟨b, off, rfl, hb, hc1⟩ := (hd.below hR.out.bel) (by omega)
          have HN : Hid (pre ++ (ds.take (k + 1)).flatMap dgL = pre ++ (ds.take k).flatMap dgL ++ dgL ds[k]) := by unfold Hid; rw [flat_snoc ds k hlt, List.append_assoc]
          obtain ⟨p0, p1, p2, p3⟩ := dcell (hc1 k hlt)
          obtain ⟨dk, hdk⟩ : ∃ dk, ds[k] = dk := ⟨_, rfl⟩
          rw [hdk] at p0 p1 p2 p3 HN
          have HK := Lib.hid hdk
          have m1 : k * 4 = 4 * k := Nat.mul_comm k 4
          clear hdk hc1
          go_wp2_with fail
          have hG' := hG.alloc (.cells #[.int .u32 (dk 0).toNat, .int .u32 (dk 1).toNat, .int .u32 (dk 2).toNat, .int .u32 (dk 3).toNat] 24)
          have hR' := hR.out.alloc (.cells #[.int .u32 (dk 0).toNat, .int .u32 (dk 1).toNat, .int .u32 (dk 2).toNat, .int .u32 (dk 3).toNat] 24)
          have hbl := Blk.new wr 24 #[.int .u32 (dk 0).toNat, .int .u32 (dk 1).toNat, .int .u32 (dk 2).toNat, .int .u32 (dk 3).toNat]
          refine (gather_any w1.heap.size _ (dgL dk) _ 4 _ hG' (sl_dig (by simp) (hbl.cell 0) (hbl.cell 1) (hbl.cell 2) (hbl.cell 3)) (show _ + 4 ≤ 1000000 by omega)).mono ?_
          rintro r w6 ⟨rfl, hG6, hb6⟩
          have hR6 := Lib.hid (hR'.under hb6 hL)
          clear c0 c1 c2 c3 c4 c5 c6 c7 hG hG' hR' hbl hb6 hR p0 p1 p2 p3
          rw [← HN.out] at hG6
          go_wp2_with fail
          go_roundw
          case rel => exact ⟨k + 1, hlt, rfl, hR6, hG6⟩
          case measure => simp [intOf]; omega
        · obtain rfl : k = ds.length := by omega
          rw [List.take_length] at hG
          rw [List.take_length] at HFl
          obtain ⟨ws, hws⟩ : ∃ ws, pre ++ ds.flatMap dgL = ws := ⟨_, rfl⟩
          rw [hws] at hG HFl
          have HWS : Hid (ws = wordsR t I ps ds f) := by unfold Hid; rw [← hws, ← HPRE.out]; rfl
          clear hws
          obtain ⟨v, hB, hown⟩ := hG
          obtain ⟨n, hn⟩ : ∃ n, ws.length = n := ⟨_, rfl⟩
          rw [hn] at hown HFl
          have HNL := Lib.hid hn
          clear hn
          obtain ⟨A1, c1', rfl, hc1', hc2', hS⟩ := Sl.of_own hown
          have hcL : wr.cell? ⟨w1.heap.size, 0, none⟩ = some (.slice A1 n c1') := hB.cell 0
          clear hc2'
          go_wp2_with fail
          refine (word_Bytes ws A1 n c1' _ hS (by omega)).mono ?_
          rintro r w6 ⟨⟨s, rfl, hs6⟩, hb6⟩
          have hsz : s.size ≤ 800 := by
            have e : s.data.toList.length = s.size := rfl
            rw [hs6.out, leBytes_length, HNL.out] at e; omega
          have hq : ¬ 9223372036854775807 < (⟨#[82]⟩ : ByteArray).size + s.size := by show ¬ _ < 1 + _; omega
          go_wp2_with fail
          go_returns
          exact ⟨⟨_, rfl, by unfold Hid bytesR; rw [ba_append, hs6.out, HWS.out]; rfl⟩, hR.out.bel.trans (hb6.mono hR.out.bel.size)⟩
end Go.Proofs.YtdkkomcokefkhaaDoor
