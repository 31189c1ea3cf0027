/- Layer 37: the document's Read of a recipe, the arms joined. -/
/- The law RecipeReads, walked.  -/
import Derived.Test.YtdkkomcokefkhaaDoorRcS
import Derived.Test.YtdkkomcokefkhaaDoorRcU
namespace Go.Proofs.YtdkkomcokefkhaaDoor
open Go.RowKit

/-- Words that are bad at the head are no recipe's. -/
theorem head_no {l : List UInt32} (hb : headBad l) {t f : Int} {I : Nat → UInt32} {ps : List Int} {ds : List (Nat → UInt32)} (hr : rightR t I ps ds.length f = true) : wordsR t I ps ds f ≠ l := by
  intro e
  obtain ⟨k1, k2, k3, k4, k5, _⟩ := words_in hr e
  unfold headBad at hb
  omega
theorem refR_Read_any (s : ByteArray) (l : List UInt32) (w : World) (h1 : 1 ≤ s.size) (h2 : s.data.toList.take 1 = [82]) (h4 : (s.size - 1) % 4 = 0) (hm : s.size ≤ 2000) (hl : wordsL (s.data.toList.drop 1) = l) :
    Calls Tryd.prog 17 #[.string s] w (ReadPost l w) := by
  by_cases hb : headBad l
  · refine (refR_Read_bad2 s l w (hd_of h1 hm h2) h4 hl hb).mono ?_
    rintro r W' ⟨k, hw⟩
    exact ⟨.inr ⟨k, fun _ _ _ _ _ hr => head_no hb hr⟩, hw⟩
  · exact refR_Read_good s l w (hd_of h1 hm h2) h4 hl hb
theorem refR_Read_yes (s : ByteArray) (t : Int) (I : Nat → UInt32) (ps : List Int) (ds : List (Nat → UInt32)) (f : Int) (w : World) (hs : s.data.toList = bytesR t I ps ds f) (hr : rightR t I ps ds.length f = true) :
    Calls Tryd.prog 17 #[.string s] w fun r W' => (∃ (t' : Int) (I' : Nat → UInt32) (ps' : List Int) (ds' : List (Nat → UInt32)) (f' : Int) (A B : Option Addr) (c e : Nat), r = .returned (.tuple #[.agg #[.int .i64 t', .int .u32 (I' 0).toNat, .int .u32 (I' 1).toNat, .int .u32 (I' 2).toNat, .int .u32 (I' 3).toNat, .slice A ps'.length c, .slice B ds'.length e, .int .i64 f'], .int .i64 0]) ∧
      Hid (sameR t' t I' I f' f ps' ps ds' ds = true) ∧ Hid (rightR t' I' ps' ds'.length f' = true) ∧ Sl W' W'.heap.size A ps'.length (ps'.map iv) ∧ Sd W' W'.heap.size B ds') ∧ Below w.heap.size w W' := by
  obtain ⟨_, _, hp, _, hm⟩ := rr_in hr
  have hl : s.data.toList.length = s.size := rfl
  have hz : s.size = 1 + 4 * (8 + ps.length + 4 * ds.length) := by
    rw [← hl, hs]
    unfold bytesR
    rw [List.length_cons, leBytes_length, wordsR_len]
    omega
  have h2 : s.data.toList.take 1 = [82] := by rw [hs]; rfl
  have h3 : wordsL (s.data.toList.drop 1) = wordsR t I ps ds f := by
    rw [hs]
    exact words_le _
  refine (refR_Read_any s _ w (by omega) h2 (by omega) (by omega) h3).mono ?_
  rintro r W' ⟨⟨t', I', ps', ds', f', A, B, c, e, rfl, k1, k2, k3, k4⟩ | ⟨_, k⟩, hb⟩
  · exact ⟨⟨t', I', ps', ds', f', A, B, c, e, rfl, words_inj k2 hr k1, k2, k3, k4⟩, hb⟩
  · exact absurd rfl (k t I ps ds f hr)
theorem refR_Read_no (s : ByteArray) (w : World) (hs : s.size ≤ 1000000) (h : ∀ (t : Int) (I : Nat → UInt32) (ps : List Int) (ds : List (Nat → UInt32)) (f : Int), rightR t I ps ds.length f = true → s.data.toList ≠ bytesR t I ps ds f) :
    Calls Tryd.prog 17 #[.string s] w fun e W' => e = .returned (.tuple #[.agg zrec, .int .i64 7]) ∧ Below w.heap.size w W' := by
  by_cases h1 : s.size < 1
  · exact refR_Read_bad0 s w (.inl h1) (by omega)
  by_cases hg : 2000 < s.size
  · exact refR_Read_bad0 s w (.inr (.inl hg)) (by omega)
  by_cases h2 : s.data.toList.take 1 = [82]
  · by_cases h4 : (s.size - 1) % 4 = 0
    · refine (refR_Read_any s _ w (by omega) h2 h4 (by omega) rfl).mono ?_
      rintro r W' ⟨⟨t', I', ps', ds', f', A, B, c, e, rfl, k1, k2, k3, k4⟩ | ⟨k, _⟩, hb⟩
      · refine absurd ?_ (h t' I' ps' ds' f' k2)
        unfold bytesR
        rw [k1, le_words _ ((s.size - 1) / 4) (by rw [List.length_drop]; show s.size - 1 = _; omega)]
        rw [← List.take_append_drop 1 s.data.toList, h2]
        rfl
      · exact ⟨k, hb⟩
    · exact refR_Read_bad1 s w (hd_of (by omega) (by omega) h2) h4
  · exact refR_Read_bad0 s w (.inr (.inr ⟨by omega, by omega, h2⟩)) (by omega)
end Go.Proofs.YtdkkomcokefkhaaDoor
namespace Go.Proofs.YtdkkomcokefkhaaDoor
open Go.RowKit

set_option maxRecDepth 100000 in
set_option maxHeartbeats 4000000 in
theorem rreads_any (s : ByteArray) (_hm : s.size ≤ maxLen) (w : World) :
    Calls Tryd.prog 4 #[.string s] w fun r w' => r = .returned (.bool true) ∧ Below w.heap.size w w' := by
  go_enter Tryd.func4, Tryd.ntmps4
  go_wp2_with fail
  refine (awake_any _).mono ?_
  rintro r w1 ⟨rfl, hb1⟩
  by_cases h1000 : 1000 < s.size
  · have hI : (1000 : Int) < s.size := by omega
    go_wp2_with fail
    go_returns
    exact ⟨rfl, hb1⟩
  have hI : ¬ (1000 : Int) < s.size := by omega
  by_cases hx : ∃ (t : Int) (I : Nat → UInt32) (ps : List Int) (ds : List (Nat → UInt32)) (f : Int), rightR t I ps ds.length f = true ∧ s.data.toList = bytesR t I ps ds f
  case neg =>
    have hno : ∀ (t : Int) (I : Nat → UInt32) (ps : List Int) (ds : List (Nat → UInt32)) (f : Int), rightR t I ps ds.length f = true → s.data.toList ≠ bytesR t I ps ds f := fun t I ps ds f hr e => hx ⟨t, I, ps, ds, f, hr, e⟩
    go_wp2_with fail
    refine (recipe_Read_bad s _ (by omega) hno).mono ?_
    rintro r w2 ⟨rfl, hb2⟩
    have hb2' := hb1.trans (hb2.mono hb1.size)
    unfold zrec
    go_wp2_with fail
    refine (refR_Read_no s _ (by omega) hno).mono ?_
    rintro r w3 ⟨rfl, hb3⟩
    unfold zrec
    have hn1 := Blk.new w2 28 #[.int .i64 0, .int .u32 0, .int .u32 0, .int .u32 0, .int .u32 0, .slice none 0 0, .slice none 0 0, .int .i64 0]
    have hB1 := hn1.below hb3 hn1.lt
    have hb3' := hb2'.trans ((((Below.refl _ w2).alloc (Nat.le_refl _) _).trans (hb3.mono (((Below.refl _ w2).alloc (Nat.le_refl _) _).size))).mono hb2'.size)
    have hB2 := hB1.below ((Below.refl _ w3).alloc (Nat.le_refl _) (.cells #[.int .i64 0, .int .u32 0, .int .u32 0, .int .u32 0, .int .u32 0, .slice none 0 0, .slice none 0 0, .int .i64 0] 28)) hB1.lt
    obtain ⟨⟨c0, c1, c2, c3, c4, c5, c6, c7⟩, -⟩ := hB2.all8
    go_wp2_with fail
    have kS := refR_Same 0 0 (fun _ => 0) (fun _ => 0) none none none none [] [] [] [] 0 0 0 0 0 0 (w3.alloc (.cells #[.int .i64 0, .int .u32 0, .int .u32 0, .int .u32 0, .int .u32 0, .slice none 0 0, .slice none 0 0, .int .i64 0] 28)) Sl.nil Sl.nil (fun h => absurd h (by decide)) (fun h => absurd h (by decide)) (by decide) (by decide)
    rw [show sameR 0 0 (fun _ => 0) (fun _ => 0) 0 0 [] [] [] [] = true by decide] at kS
    refine kS.mono ?_
    rintro r w4 ⟨rfl, hb4⟩
    clear c0 c1 c2 c3 c4 c5 c6 c7
    go_wp2_with fail
    go_returns
    exact ⟨rfl, (hb3'.alloc hb3'.size _).trans (hb4.mono (hb3'.alloc hb3'.size _).size)⟩
  obtain ⟨t, I, ps, ds, f, hr, hs⟩ := hx
  go_wp2_with fail
  refine (recipe_Read_good s t I ps ds f _ hs hr).mono ?_
  rintro r w2 ⟨⟨t1, I1, ps1, ds1, f1, A, B, c, e, rfl, k1, k2, k3, k4⟩, hb2⟩
  have hb2' := hb1.trans (hb2.mono hb1.size)
  go_wp2_with fail
  refine (refR_Read_yes s t I ps ds f _ hs hr).mono ?_
  rintro r w3 ⟨⟨t2, I2, ps2, ds2, f2, A2, B2, c2, e2, rfl, q1, q2, q3, q4⟩, hb3⟩
  have hn1 := Blk.new w2 28 #[.int .i64 t1, .int .u32 (I1 0).toNat, .int .u32 (I1 1).toNat, .int .u32 (I1 2).toNat, .int .u32 (I1 3).toNat, .slice A ps1.length c, .slice B ds1.length e, .int .i64 f1]
  have hB1 := hn1.below hb3 hn1.lt
  have hbw := ((Below.refl _ w2).alloc (Nat.le_refl _) (.cells #[.int .i64 t1, .int .u32 (I1 0).toNat, .int .u32 (I1 1).toNat, .int .u32 (I1 2).toNat, .int .u32 (I1 3).toNat, .slice A ps1.length c, .slice B ds1.length e, .int .i64 f1] 28)).trans (hb3.mono ((Below.refl _ w2).alloc (Nat.le_refl _) (.cells #[.int .i64 t1, .int .u32 (I1 0).toNat, .int .u32 (I1 1).toNat, .int .u32 (I1 2).toNat, .int .u32 (I1 3).toNat, .slice A ps1.length c, .slice B ds1.length e, .int .i64 f1] 28)).size)
  have hb3' := hb2'.trans (hbw.mono hb2'.size)
  have ha3 := (Below.refl _ w3).alloc (Nat.le_refl _) (.cells #[.int .i64 t2, .int .u32 (I2 0).toNat, .int .u32 (I2 1).toNat, .int .u32 (I2 2).toNat, .int .u32 (I2 3).toNat, .slice A2 ps2.length c2, .slice B2 ds2.length e2, .int .i64 f2] 28)
  have hB2 := hB1.below ha3 hB1.lt
  have hbw4 := hbw.trans (ha3.mono hbw.size)
  have hb4' := hb3'.trans (ha3.mono hb3'.size)
  obtain ⟨⟨p0, p1, p2, p3, p4, p5, p6, p7⟩, -⟩ := hB2.all8
  have S1 := Lib.hid ((k3.below hbw4).more hbw4.size)
  have D1 := Lib.hid ((k4.below hbw4).more hbw4.size)
  have S2 := Lib.hid ((q3.below ha3).more ha3.size)
  have D2 := Lib.hid ((q4.below ha3).more ha3.size)
  obtain ⟨_, _, n1, _, n2⟩ := rr_in k2.out
  have e1 := words_same k1.out
  have e2' := words_same q1.out
  have hsm := Lib.hid (words_inj k2.out q2.out (e1.trans e2'.symm))
  have hby := Lib.hid (hs.trans (bytesR_eq.2 e1.symm))
  clear k3 k4 q3 q4 e1 e2' hn1 hB1 hbw
  go_wp2_with fail
  have kS := refR_Same t1 t2 I1 I2 A B A2 B2 ps1 ps2 ds1 ds2 c e c2 e2 f1 f2 _ S1.out S2.out D1.out D2.out (by omega) (by omega)
  rw [hsm.out] at kS
  refine kS.mono ?_
  rintro r w4 ⟨rfl, hb4⟩
  have hB4 := hB2.below hb4 hB2.lt
  clear p0 p1 p2 p3 p4 p5 p6 p7
  obtain ⟨⟨p0, p1, p2, p3, p4, p5, p6, p7⟩, -⟩ := hB4.all8
  go_wp2_with fail
  refine (recipe_Put t1 I1 A B ps1 ds1 c e f1 w4 ((S1.out.below hb4).more hb4.size) ((D1.out.below hb4).more hb4.size) k2.out).mono ?_
  rintro r w5 ⟨⟨s', rfl, hs'⟩, hb5⟩
  obtain rfl : s' = s := by
    have := hs'.out.trans hby.out.symm
    exact ByteArray.ext (Array.toList_inj.1 this)
  clear p0 p1 p2 p3 p4 p5 p6 p7
  go_wp2_with fail
  have hb5' := hb4'.trans (hb4.mono hb4'.size)
  go_returns
  exact ⟨rfl, hb5'.trans (hb5.mono hb5'.size)⟩
end Go.Proofs.YtdkkomcokefkhaaDoor
